/-
  NARROWER THAN 'FOR EVERY INPUT', by the rows' own cells (each row's printed sentence says how): RedoWords: laid · RedoStays: laid · RedoRefuses: laid.
  DERIVED. THE GIVEN ROWS OF THIS SEAT. 3 by the template 'for every input the law returns true; each argument reads behind the call as it read before'; 0 by the template 'total and deterministic' (their statements: YtfijnpfhffhffaaDoorTotals.lean).
  GIVEN WITH THE SEED: the statements are not yours to turn. If you find one false, say at which input.
  Laid BY PROGRAM, IN A SANDBOX (cutbox-rows.mjs): the forced cells as the released guide's own fill.sh prints them over the translation b6eed2d3ab68d4ae… (all of the seat's roots in one cut). By AI agents, Wed Nov 11 2026. No macro, syntax, notation, axiom, sorry.
-/
import Derived.Test.YtfijnpfhffhffaaDoorChecked
import GoSem.Claim
import GoSem.ClaimJoined
import GoSem.ClaimMapViews
import Derived.JoinedTies
import Derived.KernelRfl
namespace Go.Proofs.YtfijnpfhffhffaaDoor
/- THE CELL 'sum', in the pinned program and in every row, IS THE sha256 OF THE DUMP (.gsa) THAT YtfijnpfhffhffaaDoorProg.lean LOADS. Nothing in Lean hashes anything: it is a label: what it is worth is what the hold of that sum in a sandbox is worth. -/
noncomputable def Tryd.pinned : Pinned := { name := "ytfijnpfhffhffaadoor", sum := "b6eed2d3ab68d4aee0634e5ec86f201ae6470cb813c292e6b5bc1e273f54f967", checked := Tryd.checked }
namespace Rows
def none {H : Type} : Left H := { results := [], args := [] }

/- WHAT THE LISTED PACKAGE-LEVEL VARIABLES READ AS WHEN THE CALL BEGINS. Each datum BY PROGRAM (the guide's laid-datum.mjs) off the statement by which the dump's own 'gosem.cut.vars' lays the variable. In a bare row this is a premise. The card (YtfijnpfhffhffaaDoorCards.lean) ties it to the program's text. -/
def laid_simulcast_layout_sizes {H : Type} : DataW H := .agg [.lit (.int .i64 8), .lit (.int .i64 8), .lit (.int .i64 8), .lit (.int .i64 1), .lit (.int .i64 104), .lit (.int .i64 0), .lit (.int .i64 32)]

/-- 'simulcastlaw25.RedoWords': WHATEVER THE INPUT: true; the input reads as it did. -/
def redoWordsSpec : ChangeSpec := { name := "redoWords", fn := fun _ => fun
  | [d1, d2] => { results := [.lit (.bool true)], args := [d1, d2] }
  | _ => none }
def redoWordsRow : OpenClaim := { program := "ytfijnpfhffhffaadoor", sum := "b6eed2d3ab68d4aee0634e5ec86f201ae6470cb813c292e6b5bc1e273f54f967", func := "simulcast/simulcastlaw25.RedoWords", spec := "redoWords", unfollowed := true, recurses := true, named := ["simulcast/layout.sizes"], apart := false, laid := [("simulcast/layout.sizes", laid_simulcast_layout_sizes)] }
def RedoWordsSaid : Prop := redoWordsRow.holds Tryd.pinned (OpenSpec.ofChange redoWordsSpec)

/-- ITS FALSE NEIGHBOUR: 'it returns false'. Refute it at one input. -/
def redoWordsWrong : ChangeSpec := { name := "redoWords", fn := fun _ => fun
  | [d1, d2] => { results := [.lit (.bool false)], args := [d1, d2] }
  | _ => none }
def RedoWordsWrongFalsely : Prop := redoWordsRow.holds Tryd.pinned (OpenSpec.ofChange redoWordsWrong)

/-- 'simulcastlaw25.RedoStays': WHATEVER THE INPUT: true; the input reads as it did. -/
def redoStaysSpec : ChangeSpec := { name := "redoStays", fn := fun _ => fun
  | [d] => { results := [.lit (.bool true)], args := [d] }
  | _ => none }
def redoStaysRow : OpenClaim := { program := "ytfijnpfhffhffaadoor", sum := "b6eed2d3ab68d4aee0634e5ec86f201ae6470cb813c292e6b5bc1e273f54f967", func := "simulcast/simulcastlaw25.RedoStays", spec := "redoStays", unfollowed := true, recurses := true, named := ["simulcast/layout.sizes"], apart := false, laid := [("simulcast/layout.sizes", laid_simulcast_layout_sizes)] }
def RedoStaysSaid : Prop := redoStaysRow.holds Tryd.pinned (OpenSpec.ofChange redoStaysSpec)

/-- ITS FALSE NEIGHBOUR: 'it returns false'. Refute it at one input. -/
def redoStaysWrong : ChangeSpec := { name := "redoStays", fn := fun _ => fun
  | [d] => { results := [.lit (.bool false)], args := [d] }
  | _ => none }
def RedoStaysWrongFalsely : Prop := redoStaysRow.holds Tryd.pinned (OpenSpec.ofChange redoStaysWrong)

/-- 'simulcastlaw25.RedoRefuses': WHATEVER THE INPUT: true; the input reads as it did. -/
def redoRefusesSpec : ChangeSpec := { name := "redoRefuses", fn := fun _ => fun
  | [d1, d2] => { results := [.lit (.bool true)], args := [d1, d2] }
  | _ => none }
def redoRefusesRow : OpenClaim := { program := "ytfijnpfhffhffaadoor", sum := "b6eed2d3ab68d4aee0634e5ec86f201ae6470cb813c292e6b5bc1e273f54f967", func := "simulcast/simulcastlaw25.RedoRefuses", spec := "redoRefuses", unfollowed := true, recurses := true, named := ["simulcast/layout.sizes"], apart := false, laid := [("simulcast/layout.sizes", laid_simulcast_layout_sizes)] }
def RedoRefusesSaid : Prop := redoRefusesRow.holds Tryd.pinned (OpenSpec.ofChange redoRefusesSpec)

/-- ITS FALSE NEIGHBOUR: 'it returns false'. Refute it at one input. -/
def redoRefusesWrong : ChangeSpec := { name := "redoRefuses", fn := fun _ => fun
  | [d1, d2] => { results := [.lit (.bool false)], args := [d1, d2] }
  | _ => none }
def RedoRefusesWrongFalsely : Prop := redoRefusesRow.holds Tryd.pinned (OpenSpec.ofChange redoRefusesWrong)

/- THE SECOND FORM. 'bulk': how many values and letters a reading holds, each counted each time it is reached (what is shared counts as often as it is met; a slice's spare places count too). A statement '..UptoSaid' is the law's where the arguments, and the package variables that the reading takes, are together of bulk at most 1048576: NARROWER than '..Said'. Prove '..Said' where nothing that the law and all that it calls make is longer than what came in: it says more and counts as full. Else prove '..UptoSaid'. A law counts once. -/
mutual
def uptoBulk {H : Type} : DataW H → Nat
  | .lit (.string bytes) => bytes.length + 1
  | .lit _ => 1
  | .nil => 1
  | .ptr d => uptoBulk d + 1
  | .slice elems spare => uptoBulkAll elems + uptoBulkAll spare + 1
  | .agg parts => uptoBulkAll parts + 1
  | .iface _ d => uptoBulk d + 1
  | .map entries => uptoBulkEntries entries + 1
  | .held _ => 1
def uptoBulkAll {H : Type} : List (DataW H) → Nat
  | [] => 0
  | d :: r => uptoBulk d + uptoBulkAll r
def uptoBulkEntries {H : Type} : List (Lit × DataW H) → Nat
  | [] => 0
  | x :: r => uptoBulkEntry x + uptoBulkEntries r
def uptoBulkEntry {H : Type} : Lit × DataW H → Nat
  | (.string bytes, d) => bytes.length + uptoBulk d + 1
  | (_, d) => uptoBulk d + 1
 end
def uptoSmall : (H : Type) → List (DataW H) → Bool := fun _ ds => decide (uptoBulkAll ds ≤ 1048576)
def OpenSpec.upto (s : _root_.Go.ChangeSpec) : _root_.Go.OpenSpec := { _root_.Go.OpenSpec.ofChange s with cond := some uptoSmall }

/-- 'simulcastlaw25.RedoWords', WHERE WHAT IT READS IS OF BULK AT MOST 1048576: true; the input reads as it did. -/
def redoWordsUptoRow : OpenClaim := { program := "ytfijnpfhffhffaadoor", sum := "b6eed2d3ab68d4aee0634e5ec86f201ae6470cb813c292e6b5bc1e273f54f967", func := "simulcast/simulcastlaw25.RedoWords", spec := "redoWords", unfollowed := true, recurses := true, named := ["simulcast/layout.sizes"], apart := false, laid := [("simulcast/layout.sizes", laid_simulcast_layout_sizes)], narrowed := true }
def RedoWordsUptoSaid : Prop := redoWordsUptoRow.holds Tryd.pinned (OpenSpec.upto redoWordsSpec)

/-- 'simulcastlaw25.RedoStays', WHERE WHAT IT READS IS OF BULK AT MOST 1048576: true; the input reads as it did. -/
def redoStaysUptoRow : OpenClaim := { program := "ytfijnpfhffhffaadoor", sum := "b6eed2d3ab68d4aee0634e5ec86f201ae6470cb813c292e6b5bc1e273f54f967", func := "simulcast/simulcastlaw25.RedoStays", spec := "redoStays", unfollowed := true, recurses := true, named := ["simulcast/layout.sizes"], apart := false, laid := [("simulcast/layout.sizes", laid_simulcast_layout_sizes)], narrowed := true }
def RedoStaysUptoSaid : Prop := redoStaysUptoRow.holds Tryd.pinned (OpenSpec.upto redoStaysSpec)

/-- 'simulcastlaw25.RedoRefuses', WHERE WHAT IT READS IS OF BULK AT MOST 1048576: true; the input reads as it did. -/
def redoRefusesUptoRow : OpenClaim := { program := "ytfijnpfhffhffaadoor", sum := "b6eed2d3ab68d4aee0634e5ec86f201ae6470cb813c292e6b5bc1e273f54f967", func := "simulcast/simulcastlaw25.RedoRefuses", spec := "redoRefuses", unfollowed := true, recurses := true, named := ["simulcast/layout.sizes"], apart := false, laid := [("simulcast/layout.sizes", laid_simulcast_layout_sizes)], narrowed := true }
def RedoRefusesUptoSaid : Prop := redoRefusesUptoRow.holds Tryd.pinned (OpenSpec.upto redoRefusesSpec)

end Rows
end Go.Proofs.YtfijnpfhffhffaaDoor
