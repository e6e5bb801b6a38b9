/- General laws on slices of structs that the call owns: an element's cells, a cell written. No program in sight. -/
import Derived.Test.YtojcojghnhibmaaDoorBase
namespace Go.Proofs.YtojcojghnhibmaaDoor
open Go.RowKit

theorem flat_at {α : Type} {enc : α → List Value} {size : Nat} (henc : ∀ x, (enc x).length = size) (l : List α) (i : Nat) (x : α) (hx : l[i]? = some x) (j : Nat) (hj : j < size) : (l.flatMap enc)[size * i + j]? = (enc x)[j]? := by
  induction l generalizing i with
  | nil => simp at hx
  | cons y ys ih =>
    cases i with
    | zero =>
      simp at hx
      subst hx
      rw [List.flatMap_cons, List.getElem?_append_left (by rw [henc]; omega)]
      simp
    | succ i =>
      simp at hx
      rw [List.flatMap_cons, List.getElem?_append_right (by rw [henc, Nat.mul_add]; omega), henc, ← ih i hx]
      congr 1
      rw [Nat.mul_add]; omega

/-- The cells of element i. -/
theorem Own.cellsAt {α : Type} {enc : α → List Value} {base : Nat} {e : TypeId} {size : Nat} {l : List α} {w : World} (henc : ∀ x, (enc x).length = size) {v : Value} (h : Own w base e size enc v l) {i : Nat} {x : α} (hx : l[i]? = some x) :
    ∃ g c, v = .slice (some ⟨g, 0, none⟩) l.length c ∧ g < w.heap.size ∧ ∀ j, j < size → w.cell? ⟨g, i * size + j, none⟩ = (enc x)[j]? := by
  have hi : i < l.length := (List.getElem?_eq_some_iff.1 hx).1
  rcases h.2 with ⟨rfl, h0⟩ | ⟨g, cap, cur, rfl, hb, hg, hn, hm, hs, ht⟩
  · omega
  · refine ⟨g, cap, rfl, (Array.getElem?_eq_some_iff.1 hg).1, fun j hj => ?_⟩
    have h1 := World.ownsRow.cellAt (show w.ownsRow base e size (.slice (some ⟨g, 0, none⟩) l.length cap) l.length (l.flatMap enc) from ⟨h.1, .inr ⟨g, cap, cur, rfl, hb, hg, hn, hm, hs, ht⟩⟩) (size * i + j) (by
      have : size * i + size ≤ l.length * size := by rw [Nat.mul_comm l.length]; calc size * i + size = size * (i + 1) := by rw [Nat.mul_add]; omega
          _ ≤ size * l.length := Nat.mul_le_mul_left _ hi
      omega)
    rw [Nat.mul_comm i size, h1]
    exact flat_at henc l i x hx j hj

theorem flat_set {α : Type} {enc : α → List Value} {size : Nat} (henc : ∀ x, (enc x).length = size) (l : List α) (i : Nat) (x x' : α) (hx : l[i]? = some x) (j : Nat) (hj : j < size) (u : Value) (he : enc x' = (enc x).set j u) :
    (l.flatMap enc).set (i * size + j) u = (l.set i x').flatMap enc := by
  induction l generalizing i with
  | nil => simp at hx
  | cons y ys ih =>
    cases i with
    | zero =>
      simp at hx
      subst hx
      simp only [List.flatMap_cons, List.set_cons_zero, Nat.zero_mul, Nat.zero_add]
      rw [List.set_append_left _ _ (by rw [henc]; exact hj), he]
    | succ i =>
      simp at hx
      simp only [List.flatMap_cons, List.set_cons_succ]
      rw [List.set_append_right _ _ (by rw [henc, Nat.add_mul]; omega), henc, ← ih i hx]
      congr 2
      rw [Nat.add_mul]; omega

/-- One cell of element i is written. -/
theorem Own.set {α : Type} {enc : α → List Value} {base : Nat} {e : TypeId} {size : Nat} {l : List α} {w : World} (henc : ∀ x, (enc x).length = size) {g n c : Nat} (h : Own w base e size enc (.slice (some ⟨g, 0, none⟩) n c) l) {i : Nat} {x : α} (hx : l[i]? = some x) (x' : α)
    {j : Nat} (hj : j < size) (u : Value) (he : enc x' = (enc x).set j u) {o : Nat} (ho : o = i * size + j) : Own (w.setCell ⟨g, o, none⟩ u) base e size enc (.slice (some ⟨g, 0, none⟩) n c) (l.set i x') := by
  subst ho
  obtain ⟨a, c', h'⟩ := Own.shape h
  simp only [Value.slice.injEq] at h'
  obtain ⟨_, rfl, _⟩ := h'
  have h1 := (World.ownsRow.stored (show w.ownsRow base e size _ l.length (l.flatMap enc) from h) (i * size + j) u).1
  unfold Own
  rw [flat_set henc l i x x' hx j hj u he] at h1
  simpa using h1

end Go.Proofs.YtojcojghnhibmaaDoor
