/-
  NARROWER THAN 'FOR EVERY INPUT', by the rows' own cells (each row's printed sentence says how): DescReads: laid · DescPacks: laid · DescLogicals: laid · DescDecides: laid · DescFields: laid · DescApart: laid.
  DERIVED. THE GIVEN ROWS OF THIS SEAT. 6 by the template 'for every input the law returns true; each argument reads behind the call as it read before'; 0 by the template 'total and deterministic' (their statements: YtojcojghnhibmaaDoorTotals.lean).
  GIVEN WITH THE SEED: the statements are not yours to turn. If you find one false, say at which input.
  Laid BY PROGRAM, IN A SANDBOX (cutbox-rows.mjs): the forced cells as the released guide's own fill.sh prints them over the translation d421aa0fdda81b25… (all of the seat's roots in one cut). By AI agents, Wed Nov 11 2026. No macro, syntax, notation, axiom, sorry.
-/
import Derived.Test.YtojcojghnhibmaaDoorChecked
import GoSem.Claim
import GoSem.ClaimJoined
import GoSem.ClaimMapViews
import Derived.JoinedTies
import Derived.KernelRfl
namespace Go.Proofs.YtojcojghnhibmaaDoor
/- THE CELL 'sum', in the pinned program and in every row, IS THE sha256 OF THE DUMP (.gsa) THAT YtojcojghnhibmaaDoorProg.lean LOADS. Nothing in Lean hashes anything: it is a label: what it is worth is what the hold of that sum in a sandbox is worth. -/
noncomputable def Tryd.pinned : Pinned := { name := "ytojcojghnhibmaadoor", sum := "d421aa0fdda81b25c34e1b39a7aa3f6be2cee13ab063da58bcb2412f432b1c47", checked := Tryd.checked }
namespace Rows
def none {H : Type} : Left H := { results := [], args := [] }

/- WHAT THE LISTED PACKAGE-LEVEL VARIABLES READ AS WHEN THE CALL BEGINS. Each datum BY PROGRAM (the guide's laid-datum.mjs) off the statement by which the dump's own 'gosem.cut.vars' lays the variable. In a bare row this is a premise. The card (YtojcojghnhibmaaDoorCards.lean) ties it to the program's text. -/
def laid_simulcast_layout_sizes {H : Type} : DataW H := .agg [.lit (.int .i64 8), .lit (.int .i64 8), .lit (.int .i64 8), .lit (.int .i64 1), .lit (.int .i64 104), .lit (.int .i64 0), .lit (.int .i64 32)]

/-- 'simulcastlaw19.DescReads': WHATEVER THE INPUT: true; the input reads as it did. -/
def descReadsSpec : ChangeSpec := { name := "descReads", fn := fun _ => fun
  | [d1, d2, d3] => { results := [.lit (.bool true)], args := [d1, d2, d3] }
  | _ => none }
def descReadsRow : OpenClaim := { program := "ytojcojghnhibmaadoor", sum := "d421aa0fdda81b25c34e1b39a7aa3f6be2cee13ab063da58bcb2412f432b1c47", func := "simulcast/simulcastlaw19.DescReads", spec := "descReads", unfollowed := true, recurses := true, named := ["simulcast/layout.sizes"], apart := false, laid := [("simulcast/layout.sizes", laid_simulcast_layout_sizes)] }
def DescReadsSaid : Prop := descReadsRow.holds Tryd.pinned (OpenSpec.ofChange descReadsSpec)

/-- ITS FALSE NEIGHBOUR: 'it returns false'. Refute it at one input. -/
def descReadsWrong : ChangeSpec := { name := "descReads", fn := fun _ => fun
  | [d1, d2, d3] => { results := [.lit (.bool false)], args := [d1, d2, d3] }
  | _ => none }
def DescReadsWrongFalsely : Prop := descReadsRow.holds Tryd.pinned (OpenSpec.ofChange descReadsWrong)

/-- 'simulcastlaw19.DescPacks': WHATEVER THE INPUT: true; the input reads as it did. -/
def descPacksSpec : ChangeSpec := { name := "descPacks", fn := fun _ => fun
  | [d1, d2] => { results := [.lit (.bool true)], args := [d1, d2] }
  | _ => none }
def descPacksRow : OpenClaim := { program := "ytojcojghnhibmaadoor", sum := "d421aa0fdda81b25c34e1b39a7aa3f6be2cee13ab063da58bcb2412f432b1c47", func := "simulcast/simulcastlaw19.DescPacks", spec := "descPacks", unfollowed := true, recurses := true, named := ["simulcast/layout.sizes"], apart := false, laid := [("simulcast/layout.sizes", laid_simulcast_layout_sizes)] }
def DescPacksSaid : Prop := descPacksRow.holds Tryd.pinned (OpenSpec.ofChange descPacksSpec)

/-- ITS FALSE NEIGHBOUR: 'it returns false'. Refute it at one input. -/
def descPacksWrong : ChangeSpec := { name := "descPacks", fn := fun _ => fun
  | [d1, d2] => { results := [.lit (.bool false)], args := [d1, d2] }
  | _ => none }
def DescPacksWrongFalsely : Prop := descPacksRow.holds Tryd.pinned (OpenSpec.ofChange descPacksWrong)

/-- 'simulcastlaw19.DescLogicals': WHATEVER THE INPUT: true; the input reads as it did. -/
def descLogicalsSpec : ChangeSpec := { name := "descLogicals", fn := fun _ => fun
  | [d1, d2, d3] => { results := [.lit (.bool true)], args := [d1, d2, d3] }
  | _ => none }
def descLogicalsRow : OpenClaim := { program := "ytojcojghnhibmaadoor", sum := "d421aa0fdda81b25c34e1b39a7aa3f6be2cee13ab063da58bcb2412f432b1c47", func := "simulcast/simulcastlaw19.DescLogicals", spec := "descLogicals", unfollowed := true, recurses := true, named := ["simulcast/layout.sizes"], apart := false, laid := [("simulcast/layout.sizes", laid_simulcast_layout_sizes)] }
def DescLogicalsSaid : Prop := descLogicalsRow.holds Tryd.pinned (OpenSpec.ofChange descLogicalsSpec)

/-- ITS FALSE NEIGHBOUR: 'it returns false'. Refute it at one input. -/
def descLogicalsWrong : ChangeSpec := { name := "descLogicals", fn := fun _ => fun
  | [d1, d2, d3] => { results := [.lit (.bool false)], args := [d1, d2, d3] }
  | _ => none }
def DescLogicalsWrongFalsely : Prop := descLogicalsRow.holds Tryd.pinned (OpenSpec.ofChange descLogicalsWrong)

/-- 'simulcastlaw19.DescDecides': WHATEVER THE INPUT: true; the input reads as it did. -/
def descDecidesSpec : ChangeSpec := { name := "descDecides", fn := fun _ => fun
  | [d1, d2, d3] => { results := [.lit (.bool true)], args := [d1, d2, d3] }
  | _ => none }
def descDecidesRow : OpenClaim := { program := "ytojcojghnhibmaadoor", sum := "d421aa0fdda81b25c34e1b39a7aa3f6be2cee13ab063da58bcb2412f432b1c47", func := "simulcast/simulcastlaw19.DescDecides", spec := "descDecides", unfollowed := true, recurses := true, named := ["simulcast/layout.sizes"], apart := false, laid := [("simulcast/layout.sizes", laid_simulcast_layout_sizes)] }
def DescDecidesSaid : Prop := descDecidesRow.holds Tryd.pinned (OpenSpec.ofChange descDecidesSpec)

/-- ITS FALSE NEIGHBOUR: 'it returns false'. Refute it at one input. -/
def descDecidesWrong : ChangeSpec := { name := "descDecides", fn := fun _ => fun
  | [d1, d2, d3] => { results := [.lit (.bool false)], args := [d1, d2, d3] }
  | _ => none }
def DescDecidesWrongFalsely : Prop := descDecidesRow.holds Tryd.pinned (OpenSpec.ofChange descDecidesWrong)

/-- 'simulcastlaw19.DescFields': WHATEVER THE INPUT: true; the input reads as it did. -/
def descFieldsSpec : ChangeSpec := { name := "descFields", fn := fun _ => fun
  | [d1, d2, d3] => { results := [.lit (.bool true)], args := [d1, d2, d3] }
  | _ => none }
def descFieldsRow : OpenClaim := { program := "ytojcojghnhibmaadoor", sum := "d421aa0fdda81b25c34e1b39a7aa3f6be2cee13ab063da58bcb2412f432b1c47", func := "simulcast/simulcastlaw19.DescFields", spec := "descFields", unfollowed := true, recurses := true, named := ["simulcast/layout.sizes"], apart := false, laid := [("simulcast/layout.sizes", laid_simulcast_layout_sizes)] }
def DescFieldsSaid : Prop := descFieldsRow.holds Tryd.pinned (OpenSpec.ofChange descFieldsSpec)

/-- ITS FALSE NEIGHBOUR: 'it returns false'. Refute it at one input. -/
def descFieldsWrong : ChangeSpec := { name := "descFields", fn := fun _ => fun
  | [d1, d2, d3] => { results := [.lit (.bool false)], args := [d1, d2, d3] }
  | _ => none }
def DescFieldsWrongFalsely : Prop := descFieldsRow.holds Tryd.pinned (OpenSpec.ofChange descFieldsWrong)

/-- 'simulcastlaw19.DescApart': WHATEVER THE INPUT: true; the input reads as it did. -/
def descApartSpec : ChangeSpec := { name := "descApart", fn := fun _ => fun
  | [d1, d2, d3] => { results := [.lit (.bool true)], args := [d1, d2, d3] }
  | _ => none }
def descApartRow : OpenClaim := { program := "ytojcojghnhibmaadoor", sum := "d421aa0fdda81b25c34e1b39a7aa3f6be2cee13ab063da58bcb2412f432b1c47", func := "simulcast/simulcastlaw19.DescApart", spec := "descApart", unfollowed := true, recurses := true, named := ["simulcast/layout.sizes"], apart := false, laid := [("simulcast/layout.sizes", laid_simulcast_layout_sizes)] }
def DescApartSaid : Prop := descApartRow.holds Tryd.pinned (OpenSpec.ofChange descApartSpec)

/-- ITS FALSE NEIGHBOUR: 'it returns false'. Refute it at one input. -/
def descApartWrong : ChangeSpec := { name := "descApart", fn := fun _ => fun
  | [d1, d2, d3] => { results := [.lit (.bool false)], args := [d1, d2, d3] }
  | _ => none }
def DescApartWrongFalsely : Prop := descApartRow.holds Tryd.pinned (OpenSpec.ofChange descApartWrong)

/- THE SECOND FORM. 'bulk': how many values and letters a reading holds, each counted each time it is reached (what is shared counts as often as it is met; a slice's spare places count too). A statement '..UptoSaid' is the law's where the arguments, and the package variables that the reading takes, are together of bulk at most 1048576: NARROWER than '..Said'. Prove '..Said' where nothing that the law and all that it calls make is longer than what came in: it says more and counts as full. Else prove '..UptoSaid'. A law counts once. -/
mutual
def uptoBulk {H : Type} : DataW H → Nat
  | .lit (.string bytes) => bytes.length + 1
  | .lit _ => 1
  | .nil => 1
  | .ptr d => uptoBulk d + 1
  | .slice elems spare => uptoBulkAll elems + uptoBulkAll spare + 1
  | .agg parts => uptoBulkAll parts + 1
  | .iface _ d => uptoBulk d + 1
  | .map entries => uptoBulkEntries entries + 1
  | .held _ => 1
def uptoBulkAll {H : Type} : List (DataW H) → Nat
  | [] => 0
  | d :: r => uptoBulk d + uptoBulkAll r
def uptoBulkEntries {H : Type} : List (Lit × DataW H) → Nat
  | [] => 0
  | x :: r => uptoBulkEntry x + uptoBulkEntries r
def uptoBulkEntry {H : Type} : Lit × DataW H → Nat
  | (.string bytes, d) => bytes.length + uptoBulk d + 1
  | (_, d) => uptoBulk d + 1
 end
def uptoSmall : (H : Type) → List (DataW H) → Bool := fun _ ds => decide (uptoBulkAll ds ≤ 1048576)
def OpenSpec.upto (s : _root_.Go.ChangeSpec) : _root_.Go.OpenSpec := { _root_.Go.OpenSpec.ofChange s with cond := some uptoSmall }

/-- 'simulcastlaw19.DescReads', WHERE WHAT IT READS IS OF BULK AT MOST 1048576: true; the input reads as it did. -/
def descReadsUptoRow : OpenClaim := { program := "ytojcojghnhibmaadoor", sum := "d421aa0fdda81b25c34e1b39a7aa3f6be2cee13ab063da58bcb2412f432b1c47", func := "simulcast/simulcastlaw19.DescReads", spec := "descReads", unfollowed := true, recurses := true, named := ["simulcast/layout.sizes"], apart := false, laid := [("simulcast/layout.sizes", laid_simulcast_layout_sizes)], narrowed := true }
def DescReadsUptoSaid : Prop := descReadsUptoRow.holds Tryd.pinned (OpenSpec.upto descReadsSpec)

/-- 'simulcastlaw19.DescPacks', WHERE WHAT IT READS IS OF BULK AT MOST 1048576: true; the input reads as it did. -/
def descPacksUptoRow : OpenClaim := { program := "ytojcojghnhibmaadoor", sum := "d421aa0fdda81b25c34e1b39a7aa3f6be2cee13ab063da58bcb2412f432b1c47", func := "simulcast/simulcastlaw19.DescPacks", spec := "descPacks", unfollowed := true, recurses := true, named := ["simulcast/layout.sizes"], apart := false, laid := [("simulcast/layout.sizes", laid_simulcast_layout_sizes)], narrowed := true }
def DescPacksUptoSaid : Prop := descPacksUptoRow.holds Tryd.pinned (OpenSpec.upto descPacksSpec)

/-- 'simulcastlaw19.DescLogicals', WHERE WHAT IT READS IS OF BULK AT MOST 1048576: true; the input reads as it did. -/
def descLogicalsUptoRow : OpenClaim := { program := "ytojcojghnhibmaadoor", sum := "d421aa0fdda81b25c34e1b39a7aa3f6be2cee13ab063da58bcb2412f432b1c47", func := "simulcast/simulcastlaw19.DescLogicals", spec := "descLogicals", unfollowed := true, recurses := true, named := ["simulcast/layout.sizes"], apart := false, laid := [("simulcast/layout.sizes", laid_simulcast_layout_sizes)], narrowed := true }
def DescLogicalsUptoSaid : Prop := descLogicalsUptoRow.holds Tryd.pinned (OpenSpec.upto descLogicalsSpec)

/-- 'simulcastlaw19.DescDecides', WHERE WHAT IT READS IS OF BULK AT MOST 1048576: true; the input reads as it did. -/
def descDecidesUptoRow : OpenClaim := { program := "ytojcojghnhibmaadoor", sum := "d421aa0fdda81b25c34e1b39a7aa3f6be2cee13ab063da58bcb2412f432b1c47", func := "simulcast/simulcastlaw19.DescDecides", spec := "descDecides", unfollowed := true, recurses := true, named := ["simulcast/layout.sizes"], apart := false, laid := [("simulcast/layout.sizes", laid_simulcast_layout_sizes)], narrowed := true }
def DescDecidesUptoSaid : Prop := descDecidesUptoRow.holds Tryd.pinned (OpenSpec.upto descDecidesSpec)

/-- 'simulcastlaw19.DescFields', WHERE WHAT IT READS IS OF BULK AT MOST 1048576: true; the input reads as it did. -/
def descFieldsUptoRow : OpenClaim := { program := "ytojcojghnhibmaadoor", sum := "d421aa0fdda81b25c34e1b39a7aa3f6be2cee13ab063da58bcb2412f432b1c47", func := "simulcast/simulcastlaw19.DescFields", spec := "descFields", unfollowed := true, recurses := true, named := ["simulcast/layout.sizes"], apart := false, laid := [("simulcast/layout.sizes", laid_simulcast_layout_sizes)], narrowed := true }
def DescFieldsUptoSaid : Prop := descFieldsUptoRow.holds Tryd.pinned (OpenSpec.upto descFieldsSpec)

/-- 'simulcastlaw19.DescApart', WHERE WHAT IT READS IS OF BULK AT MOST 1048576: true; the input reads as it did. -/
def descApartUptoRow : OpenClaim := { program := "ytojcojghnhibmaadoor", sum := "d421aa0fdda81b25c34e1b39a7aa3f6be2cee13ab063da58bcb2412f432b1c47", func := "simulcast/simulcastlaw19.DescApart", spec := "descApart", unfollowed := true, recurses := true, named := ["simulcast/layout.sizes"], apart := false, laid := [("simulcast/layout.sizes", laid_simulcast_layout_sizes)], narrowed := true }
def DescApartUptoSaid : Prop := descApartUptoRow.holds Tryd.pinned (OpenSpec.upto descApartSpec)

end Rows
end Go.Proofs.YtojcojghnhibmaaDoor
