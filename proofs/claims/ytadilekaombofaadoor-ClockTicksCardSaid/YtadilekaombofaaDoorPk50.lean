/- An argument opened: a list of picks ([]api.Pick). -/
import Derived.Test.YtadilekaombofaaDoorPk49
import Derived.Test.YtadilekaombofaaDoorPk41
namespace Go.Proofs.YtadilekaombofaaDoor
set_option linter.unusedSimpArgs false
set_option linter.unusedVariables false
open Go.ChangeShapes Go.WideShapes Go.RowKit Go.Deep Go.Joins
section
variable {H : Type} {enc : TypeId × Value → H} {w : World} {base : Nat} {spare : Nat → Bool} {held : Bool}
set_option maxRecDepth 100000 in
theorem pick_of_trod (n : Nat) (cs : List Value) (x : DataW H × List MemPlace) (h : DataW.trod enc Tryd.prog w base spare held n 46 cs = some x) : ∃ a : Pk, True ∧ cs = pkE a := by
 obtain ⟨y0, y1, y2, n', -, hl, h0, h1, h2⟩ := trod_struct3 Tryd.underlying46 h
 have hl3 : cs.length = 3 := hl
 match cs, hl3 with
 | [c0, c1, c2], _ =>
  obtain ⟨a0, e0, -, w0⟩ := DataW.trod_int (k := .i64) Tryd.underlying3 h0
  obtain ⟨a1, e1, -, w1⟩ := DataW.trod_int (k := .i64) Tryd.underlying3 h1
  obtain ⟨a2, e2, -, w2⟩ := DataW.trod_int (k := .i64) Tryd.underlying3 h2
  cases e0
  cases e1
  cases e2
  exact ⟨(a0, a1, a2), trivial, rfl⟩
set_option maxRecDepth 100000 in
theorem open_picks {r : Reach} {b0 : Nat} {v : Value} {d : DataW H} {p : List MemPlace} (hv : Value.okWide Tryd.prog w r b0 24 v) (h : DataW.Trod enc Tryd.prog w base spare held 24 v d p) : ∃ l : List Pk, Sl w 3 pkE v l := by
 obtain ⟨a, n, c, rfl⟩ := okWide_slice Tryd.underlying24 hv
 obtain ⟨fuel, hf⟩ := h
 obtain ⟨v', l, hv', hs, hk⟩ := sl_of_trod (en := pkE) (Ok := fun _ : Pk => True) Tryd.underlying24 (by kernel_rfl) (by omega) pkE_len pick_of_trod hf
 cases hv'
 exact ⟨l, hs⟩
end
end Go.Proofs.YtadilekaombofaaDoor
