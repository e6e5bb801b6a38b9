/-
  NARROWER THAN 'FOR EVERY INPUT', by the rows' own cells (each row's printed sentence says how): LayoutChecks: laid · LayoutPlaces: laid · LayoutApart: laid · LayoutBits: laid · LayoutFirst: laid · LayoutMay: laid.
  DERIVED. THE GIVEN ROWS OF THIS SEAT. 6 by the template 'for every input the law returns true; each argument reads behind the call as it read before'; 0 by the template 'total and deterministic' (their statements: YtoaghifcgjpijaaDoorTotals.lean).
  GIVEN WITH THE SEED: the statements are not yours to turn. If you find one false, say at which input.
  Laid BY PROGRAM, IN A SANDBOX (cutbox-rows.mjs): the forced cells as the released guide's own fill.sh prints them over the translation d9defd68adc8b6cc… (all of the seat's roots in one cut). By AI agents, Wed Nov 11 2026. No macro, syntax, notation, axiom, sorry.
-/
import Derived.Test.YtoaghifcgjpijaaDoorChecked
import GoSem.Claim
import GoSem.ClaimJoined
import GoSem.ClaimMapViews
import Derived.JoinedTies
import Derived.KernelRfl
namespace Go.Proofs.YtoaghifcgjpijaaDoor
/- THE CELL 'sum', in the pinned program and in every row, IS THE sha256 OF THE DUMP (.gsa) THAT YtoaghifcgjpijaaDoorProg.lean LOADS. Nothing in Lean hashes anything: it is a label: what it is worth is what the hold of that sum in a sandbox is worth. -/
noncomputable def Tryd.pinned : Pinned := { name := "ytoaghifcgjpijaadoor", sum := "d9defd68adc8b6cc96ddda36ac5b021a990b74780ad79c290ababf0c7623e273", checked := Tryd.checked }
namespace Rows
def none {H : Type} : Left H := { results := [], args := [] }

/- WHAT THE LISTED PACKAGE-LEVEL VARIABLES READ AS WHEN THE CALL BEGINS. Each datum BY PROGRAM (the guide's laid-datum.mjs) off the statement by which the dump's own 'gosem.cut.vars' lays the variable. In a bare row this is a premise. The card (YtoaghifcgjpijaaDoorCards.lean) ties it to the program's text. -/
def laid_simulcast_layout_sizes {H : Type} : DataW H := .agg [.lit (.int .i64 8), .lit (.int .i64 8), .lit (.int .i64 8), .lit (.int .i64 1), .lit (.int .i64 104), .lit (.int .i64 0), .lit (.int .i64 32)]

/-- 'simulcastlaw11.LayoutChecks': WHATEVER THE INPUT: true; the input reads as it did. -/
def layoutChecksSpec : ChangeSpec := { name := "layoutChecks", fn := fun _ => fun
  | [d] => { results := [.lit (.bool true)], args := [d] }
  | _ => none }
def layoutChecksRow : OpenClaim := { program := "ytoaghifcgjpijaadoor", sum := "d9defd68adc8b6cc96ddda36ac5b021a990b74780ad79c290ababf0c7623e273", func := "simulcast/simulcastlaw11.LayoutChecks", spec := "layoutChecks", named := ["simulcast/layout.sizes"], apart := false, laid := [("simulcast/layout.sizes", laid_simulcast_layout_sizes)] }
def LayoutChecksSaid : Prop := layoutChecksRow.holds Tryd.pinned (OpenSpec.ofChange layoutChecksSpec)

/-- ITS FALSE NEIGHBOUR: 'it returns false'. Refute it at one input. -/
def layoutChecksWrong : ChangeSpec := { name := "layoutChecks", fn := fun _ => fun
  | [d] => { results := [.lit (.bool false)], args := [d] }
  | _ => none }
def LayoutChecksWrongFalsely : Prop := layoutChecksRow.holds Tryd.pinned (OpenSpec.ofChange layoutChecksWrong)

/-- 'simulcastlaw11.LayoutPlaces': WHATEVER THE INPUT: true; the input reads as it did. -/
def layoutPlacesSpec : ChangeSpec := { name := "layoutPlaces", fn := fun _ => fun
  | [d1, d2, d3] => { results := [.lit (.bool true)], args := [d1, d2, d3] }
  | _ => none }
def layoutPlacesRow : OpenClaim := { program := "ytoaghifcgjpijaadoor", sum := "d9defd68adc8b6cc96ddda36ac5b021a990b74780ad79c290ababf0c7623e273", func := "simulcast/simulcastlaw11.LayoutPlaces", spec := "layoutPlaces", unfollowed := true, recurses := true, named := ["simulcast/layout.sizes"], apart := false, laid := [("simulcast/layout.sizes", laid_simulcast_layout_sizes)] }
def LayoutPlacesSaid : Prop := layoutPlacesRow.holds Tryd.pinned (OpenSpec.ofChange layoutPlacesSpec)

/-- ITS FALSE NEIGHBOUR: 'it returns false'. Refute it at one input. -/
def layoutPlacesWrong : ChangeSpec := { name := "layoutPlaces", fn := fun _ => fun
  | [d1, d2, d3] => { results := [.lit (.bool false)], args := [d1, d2, d3] }
  | _ => none }
def LayoutPlacesWrongFalsely : Prop := layoutPlacesRow.holds Tryd.pinned (OpenSpec.ofChange layoutPlacesWrong)

/-- 'simulcastlaw11.LayoutApart': WHATEVER THE INPUT: true; the input reads as it did. -/
def layoutApartSpec : ChangeSpec := { name := "layoutApart", fn := fun _ => fun
  | [d1, d2, d3] => { results := [.lit (.bool true)], args := [d1, d2, d3] }
  | _ => none }
def layoutApartRow : OpenClaim := { program := "ytoaghifcgjpijaadoor", sum := "d9defd68adc8b6cc96ddda36ac5b021a990b74780ad79c290ababf0c7623e273", func := "simulcast/simulcastlaw11.LayoutApart", spec := "layoutApart", unfollowed := true, recurses := true, named := ["simulcast/layout.sizes"], apart := false, laid := [("simulcast/layout.sizes", laid_simulcast_layout_sizes)] }
def LayoutApartSaid : Prop := layoutApartRow.holds Tryd.pinned (OpenSpec.ofChange layoutApartSpec)

/-- ITS FALSE NEIGHBOUR: 'it returns false'. Refute it at one input. -/
def layoutApartWrong : ChangeSpec := { name := "layoutApart", fn := fun _ => fun
  | [d1, d2, d3] => { results := [.lit (.bool false)], args := [d1, d2, d3] }
  | _ => none }
def LayoutApartWrongFalsely : Prop := layoutApartRow.holds Tryd.pinned (OpenSpec.ofChange layoutApartWrong)

/-- 'simulcastlaw11.LayoutBits': WHATEVER THE INPUT: true; the input reads as it did. -/
def layoutBitsSpec : ChangeSpec := { name := "layoutBits", fn := fun _ => fun
  | [d1, d2, d3] => { results := [.lit (.bool true)], args := [d1, d2, d3] }
  | _ => none }
def layoutBitsRow : OpenClaim := { program := "ytoaghifcgjpijaadoor", sum := "d9defd68adc8b6cc96ddda36ac5b021a990b74780ad79c290ababf0c7623e273", func := "simulcast/simulcastlaw11.LayoutBits", spec := "layoutBits", named := ["simulcast/layout.sizes"], apart := false, laid := [("simulcast/layout.sizes", laid_simulcast_layout_sizes)] }
def LayoutBitsSaid : Prop := layoutBitsRow.holds Tryd.pinned (OpenSpec.ofChange layoutBitsSpec)

/-- ITS FALSE NEIGHBOUR: 'it returns false'. Refute it at one input. -/
def layoutBitsWrong : ChangeSpec := { name := "layoutBits", fn := fun _ => fun
  | [d1, d2, d3] => { results := [.lit (.bool false)], args := [d1, d2, d3] }
  | _ => none }
def LayoutBitsWrongFalsely : Prop := layoutBitsRow.holds Tryd.pinned (OpenSpec.ofChange layoutBitsWrong)

/-- 'simulcastlaw11.LayoutFirst': WHATEVER THE INPUT: true; the input reads as it did. -/
def layoutFirstSpec : ChangeSpec := { name := "layoutFirst", fn := fun _ => fun
  | [d] => { results := [.lit (.bool true)], args := [d] }
  | _ => none }
def layoutFirstRow : OpenClaim := { program := "ytoaghifcgjpijaadoor", sum := "d9defd68adc8b6cc96ddda36ac5b021a990b74780ad79c290ababf0c7623e273", func := "simulcast/simulcastlaw11.LayoutFirst", spec := "layoutFirst", named := ["simulcast/layout.sizes"], apart := false, laid := [("simulcast/layout.sizes", laid_simulcast_layout_sizes)] }
def LayoutFirstSaid : Prop := layoutFirstRow.holds Tryd.pinned (OpenSpec.ofChange layoutFirstSpec)

/-- ITS FALSE NEIGHBOUR: 'it returns false'. Refute it at one input. -/
def layoutFirstWrong : ChangeSpec := { name := "layoutFirst", fn := fun _ => fun
  | [d] => { results := [.lit (.bool false)], args := [d] }
  | _ => none }
def LayoutFirstWrongFalsely : Prop := layoutFirstRow.holds Tryd.pinned (OpenSpec.ofChange layoutFirstWrong)

/-- 'simulcastlaw11.LayoutMay': WHATEVER THE INPUT: true; the input reads as it did. -/
def layoutMaySpec : ChangeSpec := { name := "layoutMay", fn := fun _ => fun
  | [d1, d2, d3] => { results := [.lit (.bool true)], args := [d1, d2, d3] }
  | _ => none }
def layoutMayRow : OpenClaim := { program := "ytoaghifcgjpijaadoor", sum := "d9defd68adc8b6cc96ddda36ac5b021a990b74780ad79c290ababf0c7623e273", func := "simulcast/simulcastlaw11.LayoutMay", spec := "layoutMay", named := ["simulcast/layout.sizes"], apart := false, laid := [("simulcast/layout.sizes", laid_simulcast_layout_sizes)] }
def LayoutMaySaid : Prop := layoutMayRow.holds Tryd.pinned (OpenSpec.ofChange layoutMaySpec)

/-- ITS FALSE NEIGHBOUR: 'it returns false'. Refute it at one input. -/
def layoutMayWrong : ChangeSpec := { name := "layoutMay", fn := fun _ => fun
  | [d1, d2, d3] => { results := [.lit (.bool false)], args := [d1, d2, d3] }
  | _ => none }
def LayoutMayWrongFalsely : Prop := layoutMayRow.holds Tryd.pinned (OpenSpec.ofChange layoutMayWrong)

/- THE SECOND FORM. 'bulk': how many values and letters a reading holds, each counted each time it is reached (what is shared counts as often as it is met; a slice's spare places count too). A statement '..UptoSaid' is the law's where the arguments, and the package variables that the reading takes, are together of bulk at most 1048576: NARROWER than '..Said'. Prove '..Said' where nothing that the law and all that it calls make is longer than what came in: it says more and counts as full. Else prove '..UptoSaid'. A law counts once. -/
mutual
def uptoBulk {H : Type} : DataW H → Nat
  | .lit (.string bytes) => bytes.length + 1
  | .lit _ => 1
  | .nil => 1
  | .ptr d => uptoBulk d + 1
  | .slice elems spare => uptoBulkAll elems + uptoBulkAll spare + 1
  | .agg parts => uptoBulkAll parts + 1
  | .iface _ d => uptoBulk d + 1
  | .map entries => uptoBulkEntries entries + 1
  | .held _ => 1
def uptoBulkAll {H : Type} : List (DataW H) → Nat
  | [] => 0
  | d :: r => uptoBulk d + uptoBulkAll r
def uptoBulkEntries {H : Type} : List (Lit × DataW H) → Nat
  | [] => 0
  | x :: r => uptoBulkEntry x + uptoBulkEntries r
def uptoBulkEntry {H : Type} : Lit × DataW H → Nat
  | (.string bytes, d) => bytes.length + uptoBulk d + 1
  | (_, d) => uptoBulk d + 1
 end
def uptoSmall : (H : Type) → List (DataW H) → Bool := fun _ ds => decide (uptoBulkAll ds ≤ 1048576)
def OpenSpec.upto (s : _root_.Go.ChangeSpec) : _root_.Go.OpenSpec := { _root_.Go.OpenSpec.ofChange s with cond := some uptoSmall }

/-- 'simulcastlaw11.LayoutChecks', WHERE WHAT IT READS IS OF BULK AT MOST 1048576: true; the input reads as it did. -/
def layoutChecksUptoRow : OpenClaim := { program := "ytoaghifcgjpijaadoor", sum := "d9defd68adc8b6cc96ddda36ac5b021a990b74780ad79c290ababf0c7623e273", func := "simulcast/simulcastlaw11.LayoutChecks", spec := "layoutChecks", named := ["simulcast/layout.sizes"], apart := false, laid := [("simulcast/layout.sizes", laid_simulcast_layout_sizes)], narrowed := true }
def LayoutChecksUptoSaid : Prop := layoutChecksUptoRow.holds Tryd.pinned (OpenSpec.upto layoutChecksSpec)

/-- 'simulcastlaw11.LayoutPlaces', WHERE WHAT IT READS IS OF BULK AT MOST 1048576: true; the input reads as it did. -/
def layoutPlacesUptoRow : OpenClaim := { program := "ytoaghifcgjpijaadoor", sum := "d9defd68adc8b6cc96ddda36ac5b021a990b74780ad79c290ababf0c7623e273", func := "simulcast/simulcastlaw11.LayoutPlaces", spec := "layoutPlaces", unfollowed := true, recurses := true, named := ["simulcast/layout.sizes"], apart := false, laid := [("simulcast/layout.sizes", laid_simulcast_layout_sizes)], narrowed := true }
def LayoutPlacesUptoSaid : Prop := layoutPlacesUptoRow.holds Tryd.pinned (OpenSpec.upto layoutPlacesSpec)

/-- 'simulcastlaw11.LayoutApart', WHERE WHAT IT READS IS OF BULK AT MOST 1048576: true; the input reads as it did. -/
def layoutApartUptoRow : OpenClaim := { program := "ytoaghifcgjpijaadoor", sum := "d9defd68adc8b6cc96ddda36ac5b021a990b74780ad79c290ababf0c7623e273", func := "simulcast/simulcastlaw11.LayoutApart", spec := "layoutApart", unfollowed := true, recurses := true, named := ["simulcast/layout.sizes"], apart := false, laid := [("simulcast/layout.sizes", laid_simulcast_layout_sizes)], narrowed := true }
def LayoutApartUptoSaid : Prop := layoutApartUptoRow.holds Tryd.pinned (OpenSpec.upto layoutApartSpec)

/-- 'simulcastlaw11.LayoutBits', WHERE WHAT IT READS IS OF BULK AT MOST 1048576: true; the input reads as it did. -/
def layoutBitsUptoRow : OpenClaim := { program := "ytoaghifcgjpijaadoor", sum := "d9defd68adc8b6cc96ddda36ac5b021a990b74780ad79c290ababf0c7623e273", func := "simulcast/simulcastlaw11.LayoutBits", spec := "layoutBits", named := ["simulcast/layout.sizes"], apart := false, laid := [("simulcast/layout.sizes", laid_simulcast_layout_sizes)], narrowed := true }
def LayoutBitsUptoSaid : Prop := layoutBitsUptoRow.holds Tryd.pinned (OpenSpec.upto layoutBitsSpec)

/-- 'simulcastlaw11.LayoutFirst', WHERE WHAT IT READS IS OF BULK AT MOST 1048576: true; the input reads as it did. -/
def layoutFirstUptoRow : OpenClaim := { program := "ytoaghifcgjpijaadoor", sum := "d9defd68adc8b6cc96ddda36ac5b021a990b74780ad79c290ababf0c7623e273", func := "simulcast/simulcastlaw11.LayoutFirst", spec := "layoutFirst", named := ["simulcast/layout.sizes"], apart := false, laid := [("simulcast/layout.sizes", laid_simulcast_layout_sizes)], narrowed := true }
def LayoutFirstUptoSaid : Prop := layoutFirstUptoRow.holds Tryd.pinned (OpenSpec.upto layoutFirstSpec)

/-- 'simulcastlaw11.LayoutMay', WHERE WHAT IT READS IS OF BULK AT MOST 1048576: true; the input reads as it did. -/
def layoutMayUptoRow : OpenClaim := { program := "ytoaghifcgjpijaadoor", sum := "d9defd68adc8b6cc96ddda36ac5b021a990b74780ad79c290ababf0c7623e273", func := "simulcast/simulcastlaw11.LayoutMay", spec := "layoutMay", named := ["simulcast/layout.sizes"], apart := false, laid := [("simulcast/layout.sizes", laid_simulcast_layout_sizes)], narrowed := true }
def LayoutMayUptoSaid : Prop := layoutMayUptoRow.holds Tryd.pinned (OpenSpec.upto layoutMaySpec)

end Rows
end Go.Proofs.YtoaghifcgjpijaaDoor
