/- Slices that are only read, wherever they lie. No program in sight. -/
import Derived.Test.YtojcojghnhibmaaDoorOwn
namespace Go.Proofs.YtojcojghnhibmaaDoor
open Go.RowKit

/-- The slice v reads as the list l (an element x as the cells 'enc x', 'size' of them). -/
def Sl {α : Type} (w : World) (size : Nat) (enc : α → List Value) (v : Value) (l : List α) : Prop :=
  ∃ a c, v = .slice a l.length c ∧ (l.length ≤ 9223372036854775807 ∧ l.length ≤ c) ∧ (l ≠ [] → ∃ b o, a = some ⟨b, o, none⟩ ∧ b < w.heap.size ∧ ∀ i x, l[i]? = some x → ∀ j, j < size → w.cell? ⟨b, o + i * size + j, none⟩ = (enc x)[j]?)

section
variable {α : Type} {w w' : World} {size : Nat} {enc : α → List Value} {v : Value} {l : List α}
theorem Sl.nil : Sl w size enc (.slice none 0 0) ([] : List α) := ⟨none, 0, rfl, ⟨by simp, by simp⟩, fun h => absurd rfl h⟩
theorem Sl.of (henc : ∀ x, (enc x).length = size) (h : Sl w size enc v l) (he : Ext w w') : Sl w' size enc v l := by
  obtain ⟨a, c, hv, hm, hl⟩ := h
  refine ⟨a, c, hv, hm, fun hn => ?_⟩
  obtain ⟨b, o, rfl, hb, hc⟩ := hl hn
  refine ⟨b, o, rfl, Nat.lt_of_lt_of_le hb he.size, fun i x hx j hj => ?_⟩
  have h1 := hc i x hx j hj
  rw [List.getElem?_eq_getElem (by rw [henc]; exact hj)] at h1 ⊢
  exact he.cell h1
theorem Sl.ext (henc : ∀ x, (enc x).length = size) (h : Sl w size enc v l) (r : Xt) : Sl (ext w r) size enc v l := h.of henc ⟨r, rfl⟩
theorem Sl.of_own {base : Nat} {e : TypeId} (henc : ∀ x, (enc x).length = size) (h : Own w base e size enc v l) : Sl w size enc v l := by
  have h0 := h
  obtain ⟨h1, ⟨rfl, h2⟩ | ⟨g, cap, cur, rfl, hb, hg, hn, hm, hs, ht⟩⟩ := h
  · have : l = [] := List.length_eq_zero_iff.1 h2
    subst this; exact Sl.nil
  · refine ⟨_, cap, rfl, ⟨by unfold maxLen at hm; omega, hn⟩, fun _ => ⟨g, 0, rfl, (Array.getElem?_eq_some_iff.1 hg).1, fun i x hx j hj => ?_⟩⟩
    obtain ⟨g2, c2, hv2, _, hc2⟩ := Own.cellsAt henc h0 hx
    simp only [Value.slice.injEq, Option.some.injEq, Addr.mk.injEq] at hv2
    obtain ⟨⟨rfl, _⟩, _⟩ := hv2
    rw [Nat.zero_add]; exact hc2 j hj
theorem Sl.take {a : Option Addr} {c : Nat} (h : Sl w size enc (.slice a l.length c) l) (k : Nat) (hk : k ≤ l.length) (c' : Nat) (hkc : k ≤ c') : Sl w size enc (.slice a k c') (l.take k) := by
  obtain ⟨a', c1, hv, hm, hl⟩ := h
  simp only [Value.slice.injEq] at hv
  obtain ⟨rfl, _, _⟩ := hv
  refine ⟨a, c', by rw [List.length_take, Nat.min_eq_left hk], by rw [List.length_take]; omega, fun hn => ?_⟩
  obtain ⟨b, o, rfl, hb, hc⟩ := hl (fun h0 => hn (by rw [h0]; simp))
  refine ⟨b, o, rfl, hb, fun i x hx j hj => ?_⟩
  rw [List.getElem?_take] at hx
  split at hx
  · exact hc i x hx j hj
  · cases hx
/-- All cells, one after the other: for a law on append. -/
theorem Sl.flat (henc : ∀ x, (enc x).length = size) (hs0 : 0 < size) {a : Addr} {n c : Nat} (h : Sl w size enc (.slice (some a) n c) l) : ∀ (j : Nat) (u : Value), (l.flatMap enc)[j]? = some u → w.cell? (a.add j) = some u := by
  intro j u hu
  obtain ⟨a', c1, hv, hm, hl⟩ := h
  simp only [Value.slice.injEq] at hv
  obtain ⟨rfl, rfl, _⟩ := hv
  have hlen : ∀ l : List α, (l.flatMap enc).length = l.length * size := by
    intro l
    induction l with
    | nil => simp
    | cons y ys ih => simp only [List.flatMap_cons, List.length_append, henc, List.length_cons, Nat.add_mul]; rw [ih]; omega
  have hjl : j < l.length * size := by rw [← hlen l]; exact (List.getElem?_eq_some_iff.1 hu).1
  have hi : j / size < l.length := (Nat.div_lt_iff_lt_mul hs0).2 hjl
  obtain ⟨b, o, ha, hb, hc⟩ := hl (fun h0 => by rw [h0] at hi; simp at hi)
  cases ha
  have hx : l[j / size]? = some l[j / size] := List.getElem?_eq_getElem hi
  have h1 := hc _ _ hx (j % size) (Nat.mod_lt _ hs0)
  have h2 := flat_at henc l _ _ hx (j % size) (Nat.mod_lt _ hs0)
  rw [Nat.div_add_mod] at h2
  rw [h2] at hu
  have hadd : (⟨b, o, none⟩ : Addr).add j = ⟨b, o + j, none⟩ := by unfold Addr.add; split <;> simp_all
  rw [hadd, ← hu, ← h1, Nat.add_assoc, Nat.mul_comm (j / size) size, Nat.div_add_mod]
/-- An element's cells. -/
theorem Sl.at {a : Option Addr} {n c : Nat} (h : Sl w size enc (.slice a n c) l) {i : Nat} {x : α} (hx : l[i]? = some x) : n = l.length ∧ ∃ b o, a = some ⟨b, o, none⟩ ∧ b < w.heap.size ∧ ∀ j, j < size → w.cell? ⟨b, o + i * size + j, none⟩ = (enc x)[j]? := by
  obtain ⟨a', c1, hv, hm, hl⟩ := h
  simp only [Value.slice.injEq] at hv
  obtain ⟨rfl, rfl, _⟩ := hv
  refine ⟨rfl, ?_⟩
  obtain ⟨b, o, rfl, hb, hc⟩ := hl (fun h0 => by rw [h0] at hx; simp at hx)
  exact ⟨b, o, rfl, hb, fun j hj => hc i x hx j hj⟩
end

end Go.Proofs.YtojcojghnhibmaaDoor
