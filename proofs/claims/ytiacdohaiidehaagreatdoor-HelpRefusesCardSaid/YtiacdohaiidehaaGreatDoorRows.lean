/-
  NARROWER THAN 'FOR EVERY INPUT', by the rows' own cells (each row's printed sentence says how): HelpAsks: laid · HelpRefuses: laid.
  DERIVED. THE GIVEN ROWS OF THIS SEAT. 2 by the template 'for every input the law returns true; each argument reads behind the call as it read before'; 0 by the template 'total and deterministic' (their statements: YtiacdohaiidehaaGreatDoorTotals.lean).
  GIVEN WITH THE SEED: the statements are not yours to turn. If you find one false, say at which input.
  Laid BY PROGRAM, IN A SANDBOX (cutbox-rows.mjs): the forced cells as the released guide's own fill.sh prints them over the translation a77370d445665e3b… (all of the seat's roots in one cut). By AI agents, Wed Nov 11 2026. No macro, syntax, notation, axiom, sorry.
-/
import Derived.Test.YtiacdohaiidehaaGreatDoorChecked
import GoSem.Claim
import GoSem.ClaimJoined
import GoSem.ClaimMapViews
import Derived.JoinedTies
import Derived.KernelRfl
namespace Go.Proofs.YtiacdohaiidehaaGreatDoor
/- THE CELL 'sum', in the pinned program and in every row, IS THE sha256 OF THE DUMP (.gsa) THAT YtiacdohaiidehaaGreatDoorProg.lean LOADS. Nothing in Lean hashes anything: it is a label: what it is worth is what the hold of that sum in a sandbox is worth. -/
noncomputable def Tryz.pinned : Pinned := { name := "ytiacdohaiidehaagreatdoor", sum := "a77370d445665e3b9340eb59ee90e01b356a222c335d8aab342c2f95f382b5d5", checked := Tryz.checked }
namespace Rows
def none {H : Type} : Left H := { results := [], args := [] }

/- WHAT THE LISTED PACKAGE-LEVEL VARIABLES READ AS WHEN THE CALL BEGINS. Each datum BY PROGRAM (the guide's laid-datum.mjs) off the statement by which the dump's own 'gosem.cut.vars' lays the variable. In a bare row this is a premise. The card (YtiacdohaiidehaaGreatDoorCards.lean) ties it to the program's text. -/
def laid_simulcast_layout_sizes {H : Type} : DataW H := .agg [.lit (.int .i64 8), .lit (.int .i64 8), .lit (.int .i64 8), .lit (.int .i64 1), .lit (.int .i64 104), .lit (.int .i64 0), .lit (.int .i64 32)]

/-- 'simulcastlaw20.HelpAsks': WHATEVER THE INPUT: true; the input reads as it did. -/
def helpAsksSpec : ChangeSpec := { name := "helpAsks", fn := fun _ => fun
  | [d1, d2, d3] => { results := [.lit (.bool true)], args := [d1, d2, d3] }
  | _ => none }
def helpAsksRow : OpenClaim := { program := "ytiacdohaiidehaagreatdoor", sum := "a77370d445665e3b9340eb59ee90e01b356a222c335d8aab342c2f95f382b5d5", func := "simulcast/simulcastlaw20.HelpAsks", spec := "helpAsks", inPlace := ["maps.clone"], unfollowed := true, recurses := true, named := ["simulcast/layout.sizes"], apart := false, laid := [("simulcast/layout.sizes", laid_simulcast_layout_sizes)] }
def HelpAsksSaid : Prop := helpAsksRow.holds Tryz.pinned (OpenSpec.ofChange helpAsksSpec)

/-- ITS FALSE NEIGHBOUR: 'it returns false'. Refute it at one input. -/
def helpAsksWrong : ChangeSpec := { name := "helpAsks", fn := fun _ => fun
  | [d1, d2, d3] => { results := [.lit (.bool false)], args := [d1, d2, d3] }
  | _ => none }
def HelpAsksWrongFalsely : Prop := helpAsksRow.holds Tryz.pinned (OpenSpec.ofChange helpAsksWrong)

/-- 'simulcastlaw20.HelpRefuses': WHATEVER THE INPUT: true; the input reads as it did. -/
def helpRefusesSpec : ChangeSpec := { name := "helpRefuses", fn := fun _ => fun
  | [d1, d2, d3] => { results := [.lit (.bool true)], args := [d1, d2, d3] }
  | _ => none }
def helpRefusesRow : OpenClaim := { program := "ytiacdohaiidehaagreatdoor", sum := "a77370d445665e3b9340eb59ee90e01b356a222c335d8aab342c2f95f382b5d5", func := "simulcast/simulcastlaw20.HelpRefuses", spec := "helpRefuses", inPlace := ["maps.clone"], unfollowed := true, recurses := true, named := ["simulcast/layout.sizes"], apart := false, laid := [("simulcast/layout.sizes", laid_simulcast_layout_sizes)] }
def HelpRefusesSaid : Prop := helpRefusesRow.holds Tryz.pinned (OpenSpec.ofChange helpRefusesSpec)

/-- ITS FALSE NEIGHBOUR: 'it returns false'. Refute it at one input. -/
def helpRefusesWrong : ChangeSpec := { name := "helpRefuses", fn := fun _ => fun
  | [d1, d2, d3] => { results := [.lit (.bool false)], args := [d1, d2, d3] }
  | _ => none }
def HelpRefusesWrongFalsely : Prop := helpRefusesRow.holds Tryz.pinned (OpenSpec.ofChange helpRefusesWrong)

/- THE SECOND FORM. 'bulk': how many values and letters a reading holds, each counted each time it is reached (what is shared counts as often as it is met; a slice's spare places count too). A statement '..UptoSaid' is the law's where the arguments, and the package variables that the reading takes, are together of bulk at most 1048576: NARROWER than '..Said'. Prove '..Said' where nothing that the law and all that it calls make is longer than what came in: it says more and counts as full. Else prove '..UptoSaid'. A law counts once. -/
mutual
def uptoBulk {H : Type} : DataW H → Nat
  | .lit (.string bytes) => bytes.length + 1
  | .lit _ => 1
  | .nil => 1
  | .ptr d => uptoBulk d + 1
  | .slice elems spare => uptoBulkAll elems + uptoBulkAll spare + 1
  | .agg parts => uptoBulkAll parts + 1
  | .iface _ d => uptoBulk d + 1
  | .map entries => uptoBulkEntries entries + 1
  | .held _ => 1
def uptoBulkAll {H : Type} : List (DataW H) → Nat
  | [] => 0
  | d :: r => uptoBulk d + uptoBulkAll r
def uptoBulkEntries {H : Type} : List (Lit × DataW H) → Nat
  | [] => 0
  | x :: r => uptoBulkEntry x + uptoBulkEntries r
def uptoBulkEntry {H : Type} : Lit × DataW H → Nat
  | (.string bytes, d) => bytes.length + uptoBulk d + 1
  | (_, d) => uptoBulk d + 1
 end
def uptoSmall : (H : Type) → List (DataW H) → Bool := fun _ ds => decide (uptoBulkAll ds ≤ 1048576)
def OpenSpec.upto (s : _root_.Go.ChangeSpec) : _root_.Go.OpenSpec := { _root_.Go.OpenSpec.ofChange s with cond := some uptoSmall }

/-- 'simulcastlaw20.HelpAsks', WHERE WHAT IT READS IS OF BULK AT MOST 1048576: true; the input reads as it did. -/
def helpAsksUptoRow : OpenClaim := { program := "ytiacdohaiidehaagreatdoor", sum := "a77370d445665e3b9340eb59ee90e01b356a222c335d8aab342c2f95f382b5d5", func := "simulcast/simulcastlaw20.HelpAsks", spec := "helpAsks", inPlace := ["maps.clone"], unfollowed := true, recurses := true, named := ["simulcast/layout.sizes"], apart := false, laid := [("simulcast/layout.sizes", laid_simulcast_layout_sizes)], narrowed := true }
def HelpAsksUptoSaid : Prop := helpAsksUptoRow.holds Tryz.pinned (OpenSpec.upto helpAsksSpec)

/-- 'simulcastlaw20.HelpRefuses', WHERE WHAT IT READS IS OF BULK AT MOST 1048576: true; the input reads as it did. -/
def helpRefusesUptoRow : OpenClaim := { program := "ytiacdohaiidehaagreatdoor", sum := "a77370d445665e3b9340eb59ee90e01b356a222c335d8aab342c2f95f382b5d5", func := "simulcast/simulcastlaw20.HelpRefuses", spec := "helpRefuses", inPlace := ["maps.clone"], unfollowed := true, recurses := true, named := ["simulcast/layout.sizes"], apart := false, laid := [("simulcast/layout.sizes", laid_simulcast_layout_sizes)], narrowed := true }
def HelpRefusesUptoSaid : Prop := helpRefusesUptoRow.holds Tryz.pinned (OpenSpec.upto helpRefusesSpec)

end Rows
end Go.Proofs.YtiacdohaiidehaaGreatDoor
