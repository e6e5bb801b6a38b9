/- An argument opened: three bools (law26's Some). -/
import Derived.Test.YtadilekaombofaaDoorPk50
import Derived.Test.YtadilekaombofaaDoorPk51
namespace Go.Proofs.YtadilekaombofaaDoor
set_option linter.unusedSimpArgs false
set_option linter.unusedVariables false
open Go.ChangeShapes Go.WideShapes Go.RowKit Go.Deep Go.Joins
section
variable {H : Type} {enc : TypeId × Value → H} {w : World} {base : Nat} {spare : Nat → Bool} {held : Bool}
set_option maxRecDepth 100000 in
theorem open_some26 {r : Reach} {b0 : Nat} {v : Value} {d : DataW H} {p : List MemPlace} (hv : Value.okWide Tryd.prog w r b0 23 v) (h : DataW.Trod enc Tryd.prog w base spare held 23 v d p) :
 ∃ x y z : Bool, v = .agg #[.bool x, .bool y, .bool z] := by
 obtain ⟨cs, n, x, rfl, hx⟩ := open_flat_struct Tryd.underlying23 hv h
 obtain ⟨y0, y1, y2, n', -, hl, h0, h1, h2⟩ := trod_struct3 Tryd.underlying23 hx
 have hl3 : cs.toList.length = 3 := hl
 have hag := agg_of_list (cs := cs) rfl
 generalize cs.toList = L at hl3 h0 h1 h2 hag
 match L, hl3 with
 | [c0, c1, c2], _ =>
  obtain ⟨a0, e0, -⟩ := DataW.trod_bool Tryd.underlying4 h0
  obtain ⟨a1, e1, -⟩ := DataW.trod_bool Tryd.underlying4 h1
  obtain ⟨a2, e2, -⟩ := DataW.trod_bool Tryd.underlying4 h2
  cases e0
  cases e1
  cases e2
  exact ⟨a0, a1, a2, hag⟩
end
end Go.Proofs.YtadilekaombofaaDoor
