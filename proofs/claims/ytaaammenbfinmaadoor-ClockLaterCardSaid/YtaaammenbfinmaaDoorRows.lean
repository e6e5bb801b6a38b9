/-
  NARROWER THAN 'FOR EVERY INPUT', by the rows' own cells (each row's printed sentence says how): ClockTicks: laid · ClockLater: laid · ClockNone: laid · ClockRetries: laid.
  DERIVED. THE GIVEN ROWS OF THIS SEAT. 4 by the template 'for every input the law returns true; each argument reads behind the call as it read before'; 0 by the template 'total and deterministic' (their statements: YtaaammenbfinmaaDoorTotals.lean).
  GIVEN WITH THE SEED: the statements are not yours to turn. If you find one false, say at which input.
  Laid BY PROGRAM, IN A SANDBOX (cutbox-rows.mjs): the forced cells as the released guide's own fill.sh prints them over the translation 4dcd5ef2ae019fb2… (all of the seat's roots in one cut). By AI agents, Wed Nov 11 2026. No macro, syntax, notation, axiom, sorry.
-/
import Derived.Test.YtaaammenbfinmaaDoorChecked
import GoSem.Claim
import GoSem.ClaimJoined
import GoSem.ClaimMapViews
import Derived.JoinedTies
import Derived.KernelRfl
namespace Go.Proofs.YtaaammenbfinmaaDoor
/- THE CELL 'sum', in the pinned program and in every row, IS THE sha256 OF THE DUMP (.gsa) THAT YtaaammenbfinmaaDoorProg.lean LOADS. Nothing in Lean hashes anything: it is a label: what it is worth is what the hold of that sum in a sandbox is worth. -/
noncomputable def Tryd.pinned : Pinned := { name := "ytaaammenbfinmaadoor", sum := "4dcd5ef2ae019fb2a7275baa4bd0abc968ef501737197759845490880dbdffdd", checked := Tryd.checked }
namespace Rows
def none {H : Type} : Left H := { results := [], args := [] }

/- WHAT THE LISTED PACKAGE-LEVEL VARIABLES READ AS WHEN THE CALL BEGINS. Each datum BY PROGRAM (the guide's laid-datum.mjs) off the statement by which the dump's own 'gosem.cut.vars' lays the variable. In a bare row this is a premise. The card (YtaaammenbfinmaaDoorCards.lean) ties it to the program's text. -/
def laid_simulcast_layout_sizes {H : Type} : DataW H := .agg [.lit (.int .i64 8), .lit (.int .i64 8), .lit (.int .i64 8), .lit (.int .i64 1), .lit (.int .i64 104), .lit (.int .i64 0), .lit (.int .i64 32)]

/-- 'simulcastlaw26.ClockTicks': WHATEVER THE INPUT: true; the input reads as it did. -/
def clockTicksSpec : ChangeSpec := { name := "clockTicks", fn := fun _ => fun
  | [d1, d2, d3] => { results := [.lit (.bool true)], args := [d1, d2, d3] }
  | _ => none }
def clockTicksRow : OpenClaim := { program := "ytaaammenbfinmaadoor", sum := "4dcd5ef2ae019fb2a7275baa4bd0abc968ef501737197759845490880dbdffdd", func := "simulcast/simulcastlaw26.ClockTicks", spec := "clockTicks", inPlace := ["maps.clone"], unfollowed := true, recurses := true, named := ["simulcast/layout.sizes"], apart := false, laid := [("simulcast/layout.sizes", laid_simulcast_layout_sizes)] }
def ClockTicksSaid : Prop := clockTicksRow.holds Tryd.pinned (OpenSpec.ofChange clockTicksSpec)

/-- ITS FALSE NEIGHBOUR: 'it returns false'. Refute it at one input. -/
def clockTicksWrong : ChangeSpec := { name := "clockTicks", fn := fun _ => fun
  | [d1, d2, d3] => { results := [.lit (.bool false)], args := [d1, d2, d3] }
  | _ => none }
def ClockTicksWrongFalsely : Prop := clockTicksRow.holds Tryd.pinned (OpenSpec.ofChange clockTicksWrong)

/-- 'simulcastlaw26.ClockLater': WHATEVER THE INPUT: true; the input reads as it did. -/
def clockLaterSpec : ChangeSpec := { name := "clockLater", fn := fun _ => fun
  | [d1, d2, d3] => { results := [.lit (.bool true)], args := [d1, d2, d3] }
  | _ => none }
def clockLaterRow : OpenClaim := { program := "ytaaammenbfinmaadoor", sum := "4dcd5ef2ae019fb2a7275baa4bd0abc968ef501737197759845490880dbdffdd", func := "simulcast/simulcastlaw26.ClockLater", spec := "clockLater", inPlace := ["maps.clone"], unfollowed := true, recurses := true, named := ["simulcast/layout.sizes"], apart := false, laid := [("simulcast/layout.sizes", laid_simulcast_layout_sizes)] }
def ClockLaterSaid : Prop := clockLaterRow.holds Tryd.pinned (OpenSpec.ofChange clockLaterSpec)

/-- ITS FALSE NEIGHBOUR: 'it returns false'. Refute it at one input. -/
def clockLaterWrong : ChangeSpec := { name := "clockLater", fn := fun _ => fun
  | [d1, d2, d3] => { results := [.lit (.bool false)], args := [d1, d2, d3] }
  | _ => none }
def ClockLaterWrongFalsely : Prop := clockLaterRow.holds Tryd.pinned (OpenSpec.ofChange clockLaterWrong)

/-- 'simulcastlaw26.ClockNone': WHATEVER THE INPUT: true; the input reads as it did. -/
def clockNoneSpec : ChangeSpec := { name := "clockNone", fn := fun _ => fun
  | [d] => { results := [.lit (.bool true)], args := [d] }
  | _ => none }
def clockNoneRow : OpenClaim := { program := "ytaaammenbfinmaadoor", sum := "4dcd5ef2ae019fb2a7275baa4bd0abc968ef501737197759845490880dbdffdd", func := "simulcast/simulcastlaw26.ClockNone", spec := "clockNone", inPlace := ["maps.clone"], unfollowed := true, recurses := true, named := ["simulcast/layout.sizes"], apart := false, laid := [("simulcast/layout.sizes", laid_simulcast_layout_sizes)] }
def ClockNoneSaid : Prop := clockNoneRow.holds Tryd.pinned (OpenSpec.ofChange clockNoneSpec)

/-- ITS FALSE NEIGHBOUR: 'it returns false'. Refute it at one input. -/
def clockNoneWrong : ChangeSpec := { name := "clockNone", fn := fun _ => fun
  | [d] => { results := [.lit (.bool false)], args := [d] }
  | _ => none }
def ClockNoneWrongFalsely : Prop := clockNoneRow.holds Tryd.pinned (OpenSpec.ofChange clockNoneWrong)

/-- 'simulcastlaw26.ClockRetries': WHATEVER THE INPUT: true; the input reads as it did. -/
def clockRetriesSpec : ChangeSpec := { name := "clockRetries", fn := fun _ => fun
  | [d1, d2] => { results := [.lit (.bool true)], args := [d1, d2] }
  | _ => none }
def clockRetriesRow : OpenClaim := { program := "ytaaammenbfinmaadoor", sum := "4dcd5ef2ae019fb2a7275baa4bd0abc968ef501737197759845490880dbdffdd", func := "simulcast/simulcastlaw26.ClockRetries", spec := "clockRetries", inPlace := ["maps.clone"], unfollowed := true, recurses := true, named := ["simulcast/layout.sizes"], apart := false, laid := [("simulcast/layout.sizes", laid_simulcast_layout_sizes)] }
def ClockRetriesSaid : Prop := clockRetriesRow.holds Tryd.pinned (OpenSpec.ofChange clockRetriesSpec)

/-- ITS FALSE NEIGHBOUR: 'it returns false'. Refute it at one input. -/
def clockRetriesWrong : ChangeSpec := { name := "clockRetries", fn := fun _ => fun
  | [d1, d2] => { results := [.lit (.bool false)], args := [d1, d2] }
  | _ => none }
def ClockRetriesWrongFalsely : Prop := clockRetriesRow.holds Tryd.pinned (OpenSpec.ofChange clockRetriesWrong)

/- THE SECOND FORM. 'bulk': how many values and letters a reading holds, each counted each time it is reached (what is shared counts as often as it is met; a slice's spare places count too). A statement '..UptoSaid' is the law's where the arguments, and the package variables that the reading takes, are together of bulk at most 1048576: NARROWER than '..Said'. Prove '..Said' where nothing that the law and all that it calls make is longer than what came in: it says more and counts as full. Else prove '..UptoSaid'. A law counts once. -/
mutual
def uptoBulk {H : Type} : DataW H → Nat
  | .lit (.string bytes) => bytes.length + 1
  | .lit _ => 1
  | .nil => 1
  | .ptr d => uptoBulk d + 1
  | .slice elems spare => uptoBulkAll elems + uptoBulkAll spare + 1
  | .agg parts => uptoBulkAll parts + 1
  | .iface _ d => uptoBulk d + 1
  | .map entries => uptoBulkEntries entries + 1
  | .held _ => 1
def uptoBulkAll {H : Type} : List (DataW H) → Nat
  | [] => 0
  | d :: r => uptoBulk d + uptoBulkAll r
def uptoBulkEntries {H : Type} : List (Lit × DataW H) → Nat
  | [] => 0
  | x :: r => uptoBulkEntry x + uptoBulkEntries r
def uptoBulkEntry {H : Type} : Lit × DataW H → Nat
  | (.string bytes, d) => bytes.length + uptoBulk d + 1
  | (_, d) => uptoBulk d + 1
 end
def uptoSmall : (H : Type) → List (DataW H) → Bool := fun _ ds => decide (uptoBulkAll ds ≤ 1048576)
def OpenSpec.upto (s : _root_.Go.ChangeSpec) : _root_.Go.OpenSpec := { _root_.Go.OpenSpec.ofChange s with cond := some uptoSmall }

/-- 'simulcastlaw26.ClockTicks', WHERE WHAT IT READS IS OF BULK AT MOST 1048576: true; the input reads as it did. -/
def clockTicksUptoRow : OpenClaim := { program := "ytaaammenbfinmaadoor", sum := "4dcd5ef2ae019fb2a7275baa4bd0abc968ef501737197759845490880dbdffdd", func := "simulcast/simulcastlaw26.ClockTicks", spec := "clockTicks", inPlace := ["maps.clone"], unfollowed := true, recurses := true, named := ["simulcast/layout.sizes"], apart := false, laid := [("simulcast/layout.sizes", laid_simulcast_layout_sizes)], narrowed := true }
def ClockTicksUptoSaid : Prop := clockTicksUptoRow.holds Tryd.pinned (OpenSpec.upto clockTicksSpec)

/-- 'simulcastlaw26.ClockLater', WHERE WHAT IT READS IS OF BULK AT MOST 1048576: true; the input reads as it did. -/
def clockLaterUptoRow : OpenClaim := { program := "ytaaammenbfinmaadoor", sum := "4dcd5ef2ae019fb2a7275baa4bd0abc968ef501737197759845490880dbdffdd", func := "simulcast/simulcastlaw26.ClockLater", spec := "clockLater", inPlace := ["maps.clone"], unfollowed := true, recurses := true, named := ["simulcast/layout.sizes"], apart := false, laid := [("simulcast/layout.sizes", laid_simulcast_layout_sizes)], narrowed := true }
def ClockLaterUptoSaid : Prop := clockLaterUptoRow.holds Tryd.pinned (OpenSpec.upto clockLaterSpec)

/-- 'simulcastlaw26.ClockNone', WHERE WHAT IT READS IS OF BULK AT MOST 1048576: true; the input reads as it did. -/
def clockNoneUptoRow : OpenClaim := { program := "ytaaammenbfinmaadoor", sum := "4dcd5ef2ae019fb2a7275baa4bd0abc968ef501737197759845490880dbdffdd", func := "simulcast/simulcastlaw26.ClockNone", spec := "clockNone", inPlace := ["maps.clone"], unfollowed := true, recurses := true, named := ["simulcast/layout.sizes"], apart := false, laid := [("simulcast/layout.sizes", laid_simulcast_layout_sizes)], narrowed := true }
def ClockNoneUptoSaid : Prop := clockNoneUptoRow.holds Tryd.pinned (OpenSpec.upto clockNoneSpec)

/-- 'simulcastlaw26.ClockRetries', WHERE WHAT IT READS IS OF BULK AT MOST 1048576: true; the input reads as it did. -/
def clockRetriesUptoRow : OpenClaim := { program := "ytaaammenbfinmaadoor", sum := "4dcd5ef2ae019fb2a7275baa4bd0abc968ef501737197759845490880dbdffdd", func := "simulcast/simulcastlaw26.ClockRetries", spec := "clockRetries", inPlace := ["maps.clone"], unfollowed := true, recurses := true, named := ["simulcast/layout.sizes"], apart := false, laid := [("simulcast/layout.sizes", laid_simulcast_layout_sizes)], narrowed := true }
def ClockRetriesUptoSaid : Prop := clockRetriesUptoRow.holds Tryd.pinned (OpenSpec.upto clockRetriesSpec)

end Rows
end Go.Proofs.YtaaammenbfinmaaDoor
