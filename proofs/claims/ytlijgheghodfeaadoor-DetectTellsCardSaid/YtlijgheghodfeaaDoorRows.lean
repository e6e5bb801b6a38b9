/-
  NARROWER THAN 'FOR EVERY INPUT', by the rows' own cells (each row's printed sentence says how): DetectEntries: laid · DetectAsks: laid · DetectTells: laid · DetectRefuses: laid · DetectOnce: laid · DetectHeld: laid.
  DERIVED. THE GIVEN ROWS OF THIS SEAT. 6 by the template 'for every input the law returns true; each argument reads behind the call as it read before'; 0 by the template 'total and deterministic' (their statements: YtlijgheghodfeaaDoorTotals.lean).
  GIVEN WITH THE SEED: the statements are not yours to turn. If you find one false, say at which input.
  Laid BY PROGRAM, IN A SANDBOX (cutbox-rows.mjs): the forced cells as the released guide's own fill.sh prints them over the translation 979b3aebbdc8a42f… (all of the seat's roots in one cut). By AI agents, Wed Nov 11 2026. No macro, syntax, notation, axiom, sorry.
-/
import Derived.Test.YtlijgheghodfeaaDoorChecked
import GoSem.Claim
import GoSem.ClaimJoined
import GoSem.ClaimMapViews
import Derived.JoinedTies
import Derived.KernelRfl
namespace Go.Proofs.YtlijgheghodfeaaDoor
/- THE CELL 'sum', in the pinned program and in every row, IS THE sha256 OF THE DUMP (.gsa) THAT YtlijgheghodfeaaDoorProg.lean LOADS. Nothing in Lean hashes anything: it is a label: what it is worth is what the hold of that sum in a sandbox is worth. -/
noncomputable def Tryd.pinned : Pinned := { name := "ytlijgheghodfeaadoor", sum := "979b3aebbdc8a42fdf78601c8d97e683b016fe2b1711791f0c7283595394caf0", checked := Tryd.checked }
namespace Rows
def none {H : Type} : Left H := { results := [], args := [] }

/- WHAT THE LISTED PACKAGE-LEVEL VARIABLES READ AS WHEN THE CALL BEGINS. Each datum BY PROGRAM (the guide's laid-datum.mjs) off the statement by which the dump's own 'gosem.cut.vars' lays the variable. In a bare row this is a premise. The card (YtlijgheghodfeaaDoorCards.lean) ties it to the program's text. -/
def laid_simulcast_layout_sizes {H : Type} : DataW H := .agg [.lit (.int .i64 8), .lit (.int .i64 8), .lit (.int .i64 8), .lit (.int .i64 1), .lit (.int .i64 104), .lit (.int .i64 0), .lit (.int .i64 32)]

/-- 'simulcastlaw24.DetectEntries': WHATEVER THE INPUT: true; the input reads as it did. -/
def detectEntriesSpec : ChangeSpec := { name := "detectEntries", fn := fun _ => fun
  | [d1, d2, d3] => { results := [.lit (.bool true)], args := [d1, d2, d3] }
  | _ => none }
def detectEntriesRow : OpenClaim := { program := "ytlijgheghodfeaadoor", sum := "979b3aebbdc8a42fdf78601c8d97e683b016fe2b1711791f0c7283595394caf0", func := "simulcast/simulcastlaw24.DetectEntries", spec := "detectEntries", unfollowed := true, recurses := true, named := ["simulcast/layout.sizes"], apart := false, laid := [("simulcast/layout.sizes", laid_simulcast_layout_sizes)] }
def DetectEntriesSaid : Prop := detectEntriesRow.holds Tryd.pinned (OpenSpec.ofChange detectEntriesSpec)

/-- ITS FALSE NEIGHBOUR: 'it returns false'. Refute it at one input. -/
def detectEntriesWrong : ChangeSpec := { name := "detectEntries", fn := fun _ => fun
  | [d1, d2, d3] => { results := [.lit (.bool false)], args := [d1, d2, d3] }
  | _ => none }
def DetectEntriesWrongFalsely : Prop := detectEntriesRow.holds Tryd.pinned (OpenSpec.ofChange detectEntriesWrong)

/-- 'simulcastlaw24.DetectAsks': WHATEVER THE INPUT: true; the input reads as it did. -/
def detectAsksSpec : ChangeSpec := { name := "detectAsks", fn := fun _ => fun
  | [d1, d2, d3] => { results := [.lit (.bool true)], args := [d1, d2, d3] }
  | _ => none }
def detectAsksRow : OpenClaim := { program := "ytlijgheghodfeaadoor", sum := "979b3aebbdc8a42fdf78601c8d97e683b016fe2b1711791f0c7283595394caf0", func := "simulcast/simulcastlaw24.DetectAsks", spec := "detectAsks", unfollowed := true, recurses := true, named := ["simulcast/layout.sizes"], apart := false, laid := [("simulcast/layout.sizes", laid_simulcast_layout_sizes)] }
def DetectAsksSaid : Prop := detectAsksRow.holds Tryd.pinned (OpenSpec.ofChange detectAsksSpec)

/-- ITS FALSE NEIGHBOUR: 'it returns false'. Refute it at one input. -/
def detectAsksWrong : ChangeSpec := { name := "detectAsks", fn := fun _ => fun
  | [d1, d2, d3] => { results := [.lit (.bool false)], args := [d1, d2, d3] }
  | _ => none }
def DetectAsksWrongFalsely : Prop := detectAsksRow.holds Tryd.pinned (OpenSpec.ofChange detectAsksWrong)

/-- 'simulcastlaw24.DetectTells': WHATEVER THE INPUT: true; the input reads as it did. -/
def detectTellsSpec : ChangeSpec := { name := "detectTells", fn := fun _ => fun
  | [d1, d2] => { results := [.lit (.bool true)], args := [d1, d2] }
  | _ => none }
def detectTellsRow : OpenClaim := { program := "ytlijgheghodfeaadoor", sum := "979b3aebbdc8a42fdf78601c8d97e683b016fe2b1711791f0c7283595394caf0", func := "simulcast/simulcastlaw24.DetectTells", spec := "detectTells", unfollowed := true, recurses := true, named := ["simulcast/layout.sizes"], apart := false, laid := [("simulcast/layout.sizes", laid_simulcast_layout_sizes)] }
def DetectTellsSaid : Prop := detectTellsRow.holds Tryd.pinned (OpenSpec.ofChange detectTellsSpec)

/-- ITS FALSE NEIGHBOUR: 'it returns false'. Refute it at one input. -/
def detectTellsWrong : ChangeSpec := { name := "detectTells", fn := fun _ => fun
  | [d1, d2] => { results := [.lit (.bool false)], args := [d1, d2] }
  | _ => none }
def DetectTellsWrongFalsely : Prop := detectTellsRow.holds Tryd.pinned (OpenSpec.ofChange detectTellsWrong)

/-- 'simulcastlaw24.DetectRefuses': WHATEVER THE INPUT: true; the input reads as it did. -/
def detectRefusesSpec : ChangeSpec := { name := "detectRefuses", fn := fun _ => fun
  | [d1, d2, d3] => { results := [.lit (.bool true)], args := [d1, d2, d3] }
  | _ => none }
def detectRefusesRow : OpenClaim := { program := "ytlijgheghodfeaadoor", sum := "979b3aebbdc8a42fdf78601c8d97e683b016fe2b1711791f0c7283595394caf0", func := "simulcast/simulcastlaw24.DetectRefuses", spec := "detectRefuses", unfollowed := true, recurses := true, named := ["simulcast/layout.sizes"], apart := false, laid := [("simulcast/layout.sizes", laid_simulcast_layout_sizes)] }
def DetectRefusesSaid : Prop := detectRefusesRow.holds Tryd.pinned (OpenSpec.ofChange detectRefusesSpec)

/-- ITS FALSE NEIGHBOUR: 'it returns false'. Refute it at one input. -/
def detectRefusesWrong : ChangeSpec := { name := "detectRefuses", fn := fun _ => fun
  | [d1, d2, d3] => { results := [.lit (.bool false)], args := [d1, d2, d3] }
  | _ => none }
def DetectRefusesWrongFalsely : Prop := detectRefusesRow.holds Tryd.pinned (OpenSpec.ofChange detectRefusesWrong)

/-- 'simulcastlaw24.DetectOnce': WHATEVER THE INPUT: true; the input reads as it did. -/
def detectOnceSpec : ChangeSpec := { name := "detectOnce", fn := fun _ => fun
  | [d1, d2, d3] => { results := [.lit (.bool true)], args := [d1, d2, d3] }
  | _ => none }
def detectOnceRow : OpenClaim := { program := "ytlijgheghodfeaadoor", sum := "979b3aebbdc8a42fdf78601c8d97e683b016fe2b1711791f0c7283595394caf0", func := "simulcast/simulcastlaw24.DetectOnce", spec := "detectOnce", unfollowed := true, recurses := true, named := ["simulcast/layout.sizes"], apart := false, laid := [("simulcast/layout.sizes", laid_simulcast_layout_sizes)] }
def DetectOnceSaid : Prop := detectOnceRow.holds Tryd.pinned (OpenSpec.ofChange detectOnceSpec)

/-- ITS FALSE NEIGHBOUR: 'it returns false'. Refute it at one input. -/
def detectOnceWrong : ChangeSpec := { name := "detectOnce", fn := fun _ => fun
  | [d1, d2, d3] => { results := [.lit (.bool false)], args := [d1, d2, d3] }
  | _ => none }
def DetectOnceWrongFalsely : Prop := detectOnceRow.holds Tryd.pinned (OpenSpec.ofChange detectOnceWrong)

/-- 'simulcastlaw24.DetectHeld': WHATEVER THE INPUT: true; the input reads as it did. -/
def detectHeldSpec : ChangeSpec := { name := "detectHeld", fn := fun _ => fun
  | [d1, d2, d3] => { results := [.lit (.bool true)], args := [d1, d2, d3] }
  | _ => none }
def detectHeldRow : OpenClaim := { program := "ytlijgheghodfeaadoor", sum := "979b3aebbdc8a42fdf78601c8d97e683b016fe2b1711791f0c7283595394caf0", func := "simulcast/simulcastlaw24.DetectHeld", spec := "detectHeld", unfollowed := true, recurses := true, named := ["simulcast/layout.sizes"], apart := false, laid := [("simulcast/layout.sizes", laid_simulcast_layout_sizes)] }
def DetectHeldSaid : Prop := detectHeldRow.holds Tryd.pinned (OpenSpec.ofChange detectHeldSpec)

/-- ITS FALSE NEIGHBOUR: 'it returns false'. Refute it at one input. -/
def detectHeldWrong : ChangeSpec := { name := "detectHeld", fn := fun _ => fun
  | [d1, d2, d3] => { results := [.lit (.bool false)], args := [d1, d2, d3] }
  | _ => none }
def DetectHeldWrongFalsely : Prop := detectHeldRow.holds Tryd.pinned (OpenSpec.ofChange detectHeldWrong)

/- THE SECOND FORM. 'bulk': how many values and letters a reading holds, each counted each time it is reached (what is shared counts as often as it is met; a slice's spare places count too). A statement '..UptoSaid' is the law's where the arguments, and the package variables that the reading takes, are together of bulk at most 1048576: NARROWER than '..Said'. Prove '..Said' where nothing that the law and all that it calls make is longer than what came in: it says more and counts as full. Else prove '..UptoSaid'. A law counts once. -/
mutual
def uptoBulk {H : Type} : DataW H → Nat
  | .lit (.string bytes) => bytes.length + 1
  | .lit _ => 1
  | .nil => 1
  | .ptr d => uptoBulk d + 1
  | .slice elems spare => uptoBulkAll elems + uptoBulkAll spare + 1
  | .agg parts => uptoBulkAll parts + 1
  | .iface _ d => uptoBulk d + 1
  | .map entries => uptoBulkEntries entries + 1
  | .held _ => 1
def uptoBulkAll {H : Type} : List (DataW H) → Nat
  | [] => 0
  | d :: r => uptoBulk d + uptoBulkAll r
def uptoBulkEntries {H : Type} : List (Lit × DataW H) → Nat
  | [] => 0
  | x :: r => uptoBulkEntry x + uptoBulkEntries r
def uptoBulkEntry {H : Type} : Lit × DataW H → Nat
  | (.string bytes, d) => bytes.length + uptoBulk d + 1
  | (_, d) => uptoBulk d + 1
 end
def uptoSmall : (H : Type) → List (DataW H) → Bool := fun _ ds => decide (uptoBulkAll ds ≤ 1048576)
def OpenSpec.upto (s : _root_.Go.ChangeSpec) : _root_.Go.OpenSpec := { _root_.Go.OpenSpec.ofChange s with cond := some uptoSmall }

/-- 'simulcastlaw24.DetectEntries', WHERE WHAT IT READS IS OF BULK AT MOST 1048576: true; the input reads as it did. -/
def detectEntriesUptoRow : OpenClaim := { program := "ytlijgheghodfeaadoor", sum := "979b3aebbdc8a42fdf78601c8d97e683b016fe2b1711791f0c7283595394caf0", func := "simulcast/simulcastlaw24.DetectEntries", spec := "detectEntries", unfollowed := true, recurses := true, named := ["simulcast/layout.sizes"], apart := false, laid := [("simulcast/layout.sizes", laid_simulcast_layout_sizes)], narrowed := true }
def DetectEntriesUptoSaid : Prop := detectEntriesUptoRow.holds Tryd.pinned (OpenSpec.upto detectEntriesSpec)

/-- 'simulcastlaw24.DetectAsks', WHERE WHAT IT READS IS OF BULK AT MOST 1048576: true; the input reads as it did. -/
def detectAsksUptoRow : OpenClaim := { program := "ytlijgheghodfeaadoor", sum := "979b3aebbdc8a42fdf78601c8d97e683b016fe2b1711791f0c7283595394caf0", func := "simulcast/simulcastlaw24.DetectAsks", spec := "detectAsks", unfollowed := true, recurses := true, named := ["simulcast/layout.sizes"], apart := false, laid := [("simulcast/layout.sizes", laid_simulcast_layout_sizes)], narrowed := true }
def DetectAsksUptoSaid : Prop := detectAsksUptoRow.holds Tryd.pinned (OpenSpec.upto detectAsksSpec)

/-- 'simulcastlaw24.DetectTells', WHERE WHAT IT READS IS OF BULK AT MOST 1048576: true; the input reads as it did. -/
def detectTellsUptoRow : OpenClaim := { program := "ytlijgheghodfeaadoor", sum := "979b3aebbdc8a42fdf78601c8d97e683b016fe2b1711791f0c7283595394caf0", func := "simulcast/simulcastlaw24.DetectTells", spec := "detectTells", unfollowed := true, recurses := true, named := ["simulcast/layout.sizes"], apart := false, laid := [("simulcast/layout.sizes", laid_simulcast_layout_sizes)], narrowed := true }
def DetectTellsUptoSaid : Prop := detectTellsUptoRow.holds Tryd.pinned (OpenSpec.upto detectTellsSpec)

/-- 'simulcastlaw24.DetectRefuses', WHERE WHAT IT READS IS OF BULK AT MOST 1048576: true; the input reads as it did. -/
def detectRefusesUptoRow : OpenClaim := { program := "ytlijgheghodfeaadoor", sum := "979b3aebbdc8a42fdf78601c8d97e683b016fe2b1711791f0c7283595394caf0", func := "simulcast/simulcastlaw24.DetectRefuses", spec := "detectRefuses", unfollowed := true, recurses := true, named := ["simulcast/layout.sizes"], apart := false, laid := [("simulcast/layout.sizes", laid_simulcast_layout_sizes)], narrowed := true }
def DetectRefusesUptoSaid : Prop := detectRefusesUptoRow.holds Tryd.pinned (OpenSpec.upto detectRefusesSpec)

/-- 'simulcastlaw24.DetectOnce', WHERE WHAT IT READS IS OF BULK AT MOST 1048576: true; the input reads as it did. -/
def detectOnceUptoRow : OpenClaim := { program := "ytlijgheghodfeaadoor", sum := "979b3aebbdc8a42fdf78601c8d97e683b016fe2b1711791f0c7283595394caf0", func := "simulcast/simulcastlaw24.DetectOnce", spec := "detectOnce", unfollowed := true, recurses := true, named := ["simulcast/layout.sizes"], apart := false, laid := [("simulcast/layout.sizes", laid_simulcast_layout_sizes)], narrowed := true }
def DetectOnceUptoSaid : Prop := detectOnceUptoRow.holds Tryd.pinned (OpenSpec.upto detectOnceSpec)

/-- 'simulcastlaw24.DetectHeld', WHERE WHAT IT READS IS OF BULK AT MOST 1048576: true; the input reads as it did. -/
def detectHeldUptoRow : OpenClaim := { program := "ytlijgheghodfeaadoor", sum := "979b3aebbdc8a42fdf78601c8d97e683b016fe2b1711791f0c7283595394caf0", func := "simulcast/simulcastlaw24.DetectHeld", spec := "detectHeld", unfollowed := true, recurses := true, named := ["simulcast/layout.sizes"], apart := false, laid := [("simulcast/layout.sizes", laid_simulcast_layout_sizes)], narrowed := true }
def DetectHeldUptoSaid : Prop := detectHeldUptoRow.holds Tryd.pinned (OpenSpec.upto detectHeldSpec)

end Rows
end Go.Proofs.YtlijgheghodfeaaDoor
