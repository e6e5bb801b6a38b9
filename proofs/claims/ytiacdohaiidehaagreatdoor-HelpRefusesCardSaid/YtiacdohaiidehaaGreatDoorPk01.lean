/- General laws on slices of structs that the call owns: an element's cells, a cell written. No program in sight. Slices that are only read, wherever they lie. No program in sight. Blocks of the call's own, as lists of cells. No program in sight. Blocks of the call's own that have been written after they were made. No program in sight. Blocks of four and of six cells. No program in sight. Worlds in which one block of the caller's own has been written. No program in sight. Worlds in which one block of the call's own has been written, the block told by the slice that lies there. No program in sight. -/
import Derived.Test.YtiacdohaiidehaaGreatDoorPk00
import Derived.Maps.AppendAt
namespace Go.Proofs.YtiacdohaiidehaaGreatDoor
set_option linter.unusedSimpArgs false
set_option linter.unusedVariables false
open Go.RowKit
theorem flat_at {α : Type} {enc : α → List Value} {size : Nat} (henc : ∀ x, (enc x).length = size) (l : List α) (i : Nat) (x : α) (hx : l[i]? = some x) (j : Nat) (hj : j < size) : (l.flatMap enc)[size * i + j]? = (enc x)[j]? := by
 induction l generalizing i with
 | nil => simp at hx
 | cons y ys ih =>
  cases i with
  | zero =>
   simp at hx
   subst hx
   rw [List.flatMap_cons, List.getElem?_append_left (by rw [henc]; omega)]
   simp
  | succ i =>
   simp at hx
   rw [List.flatMap_cons, List.getElem?_append_right (by rw [henc, Nat.mul_add]; omega), henc, ← ih i hx]
   congr 1
   rw [Nat.mul_add]; omega
theorem Own.cellsAt {α : Type} {enc : α → List Value} {base : Nat} {e : TypeId} {size : Nat} {l : List α} {w : World} (henc : ∀ x, (enc x).length = size) {v : Value} (h : Own w base e size enc v l) {i : Nat} {x : α} (hx : l[i]? = some x) :
 ∃ g c, v = .slice (some ⟨g, 0, none⟩) l.length c ∧ g < w.heap.size ∧ ∀ j, j < size → w.cell? ⟨g, i * size + j, none⟩ = (enc x)[j]? := by
 have hi : i < l.length := (List.getElem?_eq_some_iff.1 hx).1
 rcases h.2 with ⟨rfl, h0⟩ | ⟨g, cap, cur, rfl, hb, hg, hn, hm, hs, ht⟩
 ·omega
 ·refine ⟨g, cap, rfl, (Array.getElem?_eq_some_iff.1 hg).1, fun j hj => ?_⟩
  have h1 := World.ownsRow.cellAt (show w.ownsRow base e size (.slice (some ⟨g, 0, none⟩) l.length cap) l.length (l.flatMap enc) from ⟨h.1, .inr ⟨g, cap, cur, rfl, hb, hg, hn, hm, hs, ht⟩⟩) (size * i + j) (by
   have : size * i + size ≤ l.length * size := by rw [Nat.mul_comm l.length]; calc size * i + size = size * (i + 1) := by rw [Nat.mul_add]; omega
    _ ≤ size * l.length := Nat.mul_le_mul_left _ hi
   omega)
  rw [Nat.mul_comm i size, h1]
  exact flat_at henc l i x hx j hj
theorem flat_set {α : Type} {enc : α → List Value} {size : Nat} (henc : ∀ x, (enc x).length = size) (l : List α) (i : Nat) (x x' : α) (hx : l[i]? = some x) (j : Nat) (hj : j < size) (u : Value) (he : enc x' = (enc x).set j u) :
 (l.flatMap enc).set (i * size + j) u = (l.set i x').flatMap enc := by
 induction l generalizing i with
 | nil => simp at hx
 | cons y ys ih =>
  cases i with
  | zero =>
   simp at hx
   subst hx
   simp only [List.flatMap_cons, List.set_cons_zero, Nat.zero_mul, Nat.zero_add]
   rw [List.set_append_left _ _ (by rw [henc]; exact hj), he]
  | succ i =>
   simp at hx
   simp only [List.flatMap_cons, List.set_cons_succ]
   rw [List.set_append_right _ _ (by rw [henc, Nat.add_mul]; omega), henc, ← ih i hx]
   congr 2
   rw [Nat.add_mul]; omega
theorem Own.set {α : Type} {enc : α → List Value} {base : Nat} {e : TypeId} {size : Nat} {l : List α} {w : World} (henc : ∀ x, (enc x).length = size) {g n c : Nat} (h : Own w base e size enc (.slice (some ⟨g, 0, none⟩) n c) l) {i : Nat} {x : α} (hx : l[i]? = some x) (x' : α)
 {j : Nat} (hj : j < size) (u : Value) (he : enc x' = (enc x).set j u) {o : Nat} (ho : o = i * size + j) : Own (w.setCell ⟨g, o, none⟩ u) base e size enc (.slice (some ⟨g, 0, none⟩) n c) (l.set i x') := by
 subst ho
 obtain ⟨a, c', h'⟩ := Own.shape h
 simp only [Value.slice.injEq] at h'
 obtain ⟨_, rfl, _⟩ := h'
 have h1 := (World.ownsRow.stored (show w.ownsRow base e size _ l.length (l.flatMap enc) from h) (i * size + j) u).1
 unfold Own
 rw [flat_set henc l i x x' hx j hj u he] at h1
 simpa using h1
open Go.RowKit
def Sl {α : Type} (w : World) (size : Nat) (enc : α → List Value) (v : Value) (l : List α) : Prop :=
 ∃ a c, v = .slice a l.length c ∧ (l.length ≤ 9223372036854775807 ∧ l.length ≤ c) ∧ (l ≠ [] → ∃ b o, a = some ⟨b, o, none⟩ ∧ b < w.heap.size ∧ ∀ i x, l[i]? = some x → ∀ j, j < size → w.cell? ⟨b, o + i * size + j, none⟩ = (enc x)[j]?)
section
variable {α : Type} {w w' : World} {size : Nat} {enc : α → List Value} {v : Value} {l : List α}
theorem Sl.nil : Sl w size enc (.slice none 0 0) ([] : List α) := ⟨none, 0, rfl, ⟨by simp, by simp⟩, fun h => absurd rfl h⟩
theorem Sl.of (henc : ∀ x, (enc x).length = size) (h : Sl w size enc v l) (he : Ext w w') : Sl w' size enc v l := by
 obtain ⟨a, c, hv, hm, hl⟩ := h
 refine ⟨a, c, hv, hm, fun hn => ?_⟩
 obtain ⟨b, o, rfl, hb, hc⟩ := hl hn
 refine ⟨b, o, rfl, Nat.lt_of_lt_of_le hb he.size, fun i x hx j hj => ?_⟩
 have h1 := hc i x hx j hj
 rw [List.getElem?_eq_getElem (by rw [henc]; exact hj)] at h1 ⊢
 exact he.cell h1
theorem Sl.ext (henc : ∀ x, (enc x).length = size) (h : Sl w size enc v l) (r : Xt) : Sl (ext w r) size enc v l := h.of henc ⟨r, rfl⟩
theorem Sl.of_own {base : Nat} {e : TypeId} (henc : ∀ x, (enc x).length = size) (h : Own w base e size enc v l) : Sl w size enc v l := by
 have h0 := h
 obtain ⟨h1, ⟨rfl, h2⟩ | ⟨g, cap, cur, rfl, hb, hg, hn, hm, hs, ht⟩⟩ := h
 ·have : l = [] := List.length_eq_zero_iff.1 h2
  subst this; exact Sl.nil
 ·refine ⟨_, cap, rfl, ⟨by unfold maxLen at hm; omega, hn⟩, fun _ => ⟨g, 0, rfl, (Array.getElem?_eq_some_iff.1 hg).1, fun i x hx j hj => ?_⟩⟩
  obtain ⟨g2, c2, hv2, _, hc2⟩ := Own.cellsAt henc h0 hx
  simp only [Value.slice.injEq, Option.some.injEq, Addr.mk.injEq] at hv2
  obtain ⟨⟨rfl, _⟩, _⟩ := hv2
  rw [Nat.zero_add]; exact hc2 j hj
theorem Sl.take {a : Option Addr} {c : Nat} (h : Sl w size enc (.slice a l.length c) l) (k : Nat) (hk : k ≤ l.length) (c' : Nat) (hkc : k ≤ c') : Sl w size enc (.slice a k c') (l.take k) := by
 obtain ⟨a', c1, hv, hm, hl⟩ := h
 simp only [Value.slice.injEq] at hv
 obtain ⟨rfl, _, _⟩ := hv
 refine ⟨a, c', by rw [List.length_take, Nat.min_eq_left hk], by rw [List.length_take]; omega, fun hn => ?_⟩
 obtain ⟨b, o, rfl, hb, hc⟩ := hl (fun h0 => hn (by rw [h0]; simp))
 refine ⟨b, o, rfl, hb, fun i x hx j hj => ?_⟩
 rw [List.getElem?_take] at hx
 split at hx
 ·exact hc i x hx j hj
 ·cases hx
theorem Sl.flat (henc : ∀ x, (enc x).length = size) (hs0 : 0 < size) {a : Addr} {n c : Nat} (h : Sl w size enc (.slice (some a) n c) l) : ∀ (j : Nat) (u : Value), (l.flatMap enc)[j]? = some u → w.cell? (a.add j) = some u := by
 intro j u hu
 obtain ⟨a', c1, hv, hm, hl⟩ := h
 simp only [Value.slice.injEq] at hv
 obtain ⟨rfl, rfl, _⟩ := hv
 have hlen : ∀ l : List α, (l.flatMap enc).length = l.length * size := by
  intro l
  induction l with
  | nil => simp
  | cons y ys ih => simp only [List.flatMap_cons, List.length_append, henc, List.length_cons, Nat.add_mul]; rw [ih]; omega
 have hjl : j < l.length * size := by rw [← hlen l]; exact (List.getElem?_eq_some_iff.1 hu).1
 have hi : j / size < l.length := (Nat.div_lt_iff_lt_mul hs0).2 hjl
 obtain ⟨b, o, ha, hb, hc⟩ := hl (fun h0 => by rw [h0] at hi; simp at hi)
 cases ha
 have hx : l[j / size]? = some l[j / size] := List.getElem?_eq_getElem hi
 have h1 := hc _ _ hx (j % size) (Nat.mod_lt _ hs0)
 have h2 := flat_at henc l _ _ hx (j % size) (Nat.mod_lt _ hs0)
 rw [Nat.div_add_mod] at h2
 rw [h2] at hu
 have hadd : (⟨b, o, none⟩ : Addr).add j = ⟨b, o + j, none⟩ := by unfold Addr.add; split <;> simp_all
 rw [hadd, ← hu, ← h1, Nat.add_assoc, Nat.mul_comm (j / size) size, Nat.div_add_mod]
theorem Sl.at {a : Option Addr} {n c : Nat} (h : Sl w size enc (.slice a n c) l) {i : Nat} {x : α} (hx : l[i]? = some x) : n = l.length ∧ ∃ b o, a = some ⟨b, o, none⟩ ∧ b < w.heap.size ∧ ∀ j, j < size → w.cell? ⟨b, o + i * size + j, none⟩ = (enc x)[j]? := by
 obtain ⟨a', c1, hv, hm, hl⟩ := h
 simp only [Value.slice.injEq] at hv
 obtain ⟨rfl, rfl, _⟩ := hv
 refine ⟨rfl, ?_⟩
 obtain ⟨b, o, rfl, hb, hc⟩ := hl (fun h0 => by rw [h0] at hx; simp at hx)
 exact ⟨b, o, rfl, hb, fun j hj => hc i x hx j hj⟩
end
open Go.RowKit
def Blk (w : World) (b : Nat) (l : List Value) : Prop := b < w.heap.size ∧ (∀ i, w.frozen? ⟨b, i, none⟩ = false) ∧ ∀ i u, l[i]? = some u → w.cell? ⟨b, i, none⟩ = some u
section
variable {w w' : World} {b : Nat} {l : List Value}
theorem Blk.of (h : Blk w b l) (he : Ext w w') : Blk w' b l := by
 obtain ⟨h1, h2, h3⟩ := h
 obtain ⟨r, rfl⟩ := he
 exact ⟨by rw [size_ext]; omega, fun i => by rw [frozen?_ext _ _ _ _ h1]; exact h2 i, fun i u hu => by rw [cell?_ext _ _ _ _ h1]; exact h3 i u hu⟩
theorem Blk.below {B : Nat} (h : Blk w b l) (hb : b < B) (he : Below B w w') : Blk w' b l :=
 ⟨Nat.lt_of_lt_of_le h.1 he.size, fun i => by rw [he.frozen (p := ⟨b, i, none⟩) hb]; exact h.2.1 i, fun i u hu => by rw [he.cell (p := ⟨b, i, none⟩) hb]; exact h.2.2 i u hu⟩
theorem Blk.ext (h : Blk w b l) (r : Xt) : Blk (ext w r) b l := h.of ⟨r, rfl⟩
theorem Blk.alloc (h : Blk w b l) (o : Obj) : Blk (w.alloc o) b l := h.of (Ext.of_alloc w o)
theorem Blk.drew (h : Blk w b l) : Blk w.drew b l := h
theorem Blk.new (cs : Array Value) (t : TypeId) (hc : cs.toList = l) (hn : b = w.heap.size) : Blk (w.alloc (.cells cs t)) b l := by
 subst hn hc
 refine ⟨by simp, fun i => ?_, fun i u hu => ?_⟩
 ·simp [go_sem]
 ·rw [World.cell?_alloc_at _ _ _ _ rfl]; simpa using hu
theorem Blk.other (h : Blk w b l) {b' i : Nat} (hb : b' ≠ b) (u : Value) : Blk (w.setCell ⟨b', i, none⟩ u) b l := by
 have e : (w.setCell ⟨b', i, none⟩ u).heap[b]? = w.heap[b]? := Below.heap_setCell w _ u b (by dsimp only; omega)
 exact ⟨by rw [World.size_setCell]; exact h.1, fun j => by rw [World.frozen?_of_block (w := w) e]; exact h.2.1 j, fun j v hv => by rw [World.cell?_of_block (w := w) e]; exact h.2.2 j v hv⟩
theorem Blk.other' {b' i : Nat} {u : Value} (hb : b' ≠ b) (h : Blk w b l) : Blk (w.setCell ⟨b', i, none⟩ u) b l := h.other hb u
theorem Blk.set (h : Blk w b l) (i : Nat) (hi : i < l.length) (u : Value) : Blk (w.setCell ⟨b, i, none⟩ u) b (l.set i u) := by
 obtain ⟨h1, h2, h3⟩ := h
 have hc : w.cell? ⟨b, i, none⟩ = some l[i] := h3 i _ (List.getElem?_eq_getElem hi)
 refine ⟨by rw [World.size_setCell]; exact h1, fun j => ?_, fun j v hv => ?_⟩
 ·rw [World.frozen?_setCell]; exact h2 j
 ·by_cases hj : i = j
  ·subst hj
   rw [List.getElem?_set_self hi] at hv
   rw [← hv]
   exact World.cell?_setCell_same _ _ _ hc
  ·rw [List.getElem?_set_ne hj] at hv
   rw [World.cell?_setCell_other _ _ _ _ (by simp [hj])]
   exact h3 j v hv
theorem Blk.setE {l0 : List Value} {i : Nat} {u : Value} (h : Blk w b l0) (hi : i < l0.length) (e : l0.set i u = l) : Blk (w.setCell ⟨b, i, none⟩ u) b l := e ▸ h.set i hi u
end
theorem Own.under {α : Type} {enc : α → List Value} {base : Nat} {e : TypeId} {size : Nat} {v : Value} {l : List α} {w : World} (h : Own w base e size enc v l) {b i : Nat} (hb : b < base) (u : Value) : Own (w.setCell ⟨b, i, none⟩ u) base e size enc v l :=
 ownsRow_setCell_below h hb u
theorem own_append_b {α : Type} {enc : α → List Value} {base : Nat} {e : TypeId} {size : Nat} {v : Value} {l : List α} {w : World} {P : Program} {t : TypeId} {i : TypeInfo} {z : Value} {bytes : Nat} (ht : P.underlying t = some (.slice e)) (hi : P.info? e = some i) (hz : i.zero = some z)
 (hsize : i.size = size) (hby : i.bytes = bytes) (hzs : z.cells.size = size) (hsz : 0 < size) (henc : ∀ x, (enc x).length = size) (hone : ∀ x, ∀ u ∈ enc x, u.oneCell' = true)
 {ops : Array Oper} {rest : List Oper} {o : Oper} {a : Act} {Q : Exit → Act → World → Prop} (hgd : o.guard = none)
 (s x : Operand) (ho : o.op = .call { callee := .builtin .append, args := #[s, x], argTypes := #[t, t] })
 (W : World) (hW : Ext W w) (hWb : W.heap.size ≤ base) (hbw : base ≤ w.heap.size) (hs : a.eval s = v) (hown : Own w base e size enc v l)
 (ad : Addr) (m c : Nat) (hx : a.eval x = .slice (some ad) m c) (news : List α) (hm : news.length = m)
 (hnews : ∀ (j : Nat) (u : Value), (news.flatMap enc)[j]? = some u → w.cell? (ad.add j) = some u)
 (hlen : l.length + m ≤ maxLen) (hbytes : (l.length + m) * bytes ≤ 140737488355328)
 (h : ∀ v' w', Own w' base e size enc v' (l ++ news) → Ext W w' → Below base w w' → wpList P ops Q rest (a.put o.dst v') w') : wpList P ops Q (o :: rest) a w := by
 have hl : (news.flatMap enc).length = m * size := by
  subst hm
  clear hnews hx hlen hbytes h
  induction news with
  | nil => simp
  | cons y ys ih => simp only [List.flatMap_cons, List.length_append, henc, List.length_cons, Nat.add_mul]; rw [ih]; omega
 refine wpList_append_own w hgd s x t ho base e i z size bytes ht hi hz hsize hby hzs hsz v l.length (l.flatMap enc) hs hown ad m c (news.flatMap enc) hx hl hnews
  (fun u hu => by obtain ⟨y, _, hy⟩ := List.mem_flatMap.1 hu; exact hone y u hy) hlen hbytes hbw ?_
 intro v' w' hown' hg _
 have hlt : ∀ k, v.ownBlock = some k → base ≤ k := fun k hk => (World.ownsRow.lt hown k hk).1
 refine h v' w' ?_ (Ext.of_below ((hW.below).grown hg hW.size (fun k hk => by have := hlt k hk; omega))) ((Below.refl base w).grown hg hbw hlt)
 have e1 : (l ++ news).length = l.length + m := by simp [hm]
 have e2 : (l ++ news).flatMap enc = l.flatMap enc ++ news.flatMap enc := by simp
 unfold Own
 rw [e1, e2]
 exact hown'
open Go.RowKit
theorem Blk.newE {w : World} {b : Nat} (cs : Array Value) (t : TypeId) (hn : b = w.heap.size) : Blk (w.alloc (.cells cs t)) b cs.toList := Blk.new cs t rfl hn
theorem Blk.eight {w : World} {b : Nat} {x0 x1 x2 x3 x4 x5 x6 x7 : Value} (h : Blk w b [x0, x1, x2, x3, x4, x5, x6, x7]) : w.cell? ⟨b, 0, none⟩ = some x0 ∧ w.cell? ⟨b, 1, none⟩ = some x1 ∧ w.cell? ⟨b, 2, none⟩ = some x2 ∧ w.cell? ⟨b, 3, none⟩ = some x3 ∧ w.cell? ⟨b, 4, none⟩ = some x4 ∧ w.cell? ⟨b, 5, none⟩ = some x5 ∧ w.cell? ⟨b, 6, none⟩ = some x6 ∧ w.cell? ⟨b, 7, none⟩ = some x7 :=
 ⟨h.2.2 0 _ rfl, h.2.2 1 _ rfl, h.2.2 2 _ rfl, h.2.2 3 _ rfl, h.2.2 4 _ rfl, h.2.2 5 _ rfl, h.2.2 6 _ rfl, h.2.2 7 _ rfl⟩
theorem Blk.three {w : World} {b : Nat} {x0 x1 x2 : Value} (h : Blk w b [x0, x1, x2]) : w.cell? ⟨b, 0, none⟩ = some x0 ∧ w.cell? ⟨b, 1, none⟩ = some x1 ∧ w.cell? ⟨b, 2, none⟩ = some x2 :=
 ⟨h.2.2 0 _ rfl, h.2.2 1 _ rfl, h.2.2 2 _ rfl⟩
open Go.RowKit
theorem Blk.four {w : World} {b : Nat} {x0 x1 x2 x3 : Value} (h : Blk w b [x0, x1, x2, x3]) : w.cell? ⟨b, 0, none⟩ = some x0 ∧ w.cell? ⟨b, 1, none⟩ = some x1 ∧ w.cell? ⟨b, 2, none⟩ = some x2 ∧ w.cell? ⟨b, 3, none⟩ = some x3 :=
 ⟨h.2.2 0 _ rfl, h.2.2 1 _ rfl, h.2.2 2 _ rfl, h.2.2 3 _ rfl⟩
theorem Own.of_ext {α : Type} {enc : α → List Value} {base : Nat} {e : TypeId} {size : Nat} {v : Value} {l : List α} {w w' : World} (h : Own w base e size enc v l) (he : Ext w w') : Own w' base e size enc v l := by
 obtain ⟨r, rfl⟩ := he; exact h.ext r
section
variable {w w' : World} {b : Nat} {l : List Value}
theorem bD (h : Blk w b l) : Blk w.drew b l := h
theorem bX (h : Blk w b l) (r : Xt) : Blk (ext w r) b l := h.ext r
theorem bN (cs : Array Value) (t : TypeId) (hc : cs.toList = l) (hn : b = w.heap.size) : Blk (w.alloc (.cells cs t)) b l := Blk.new cs t hc hn
theorem bE (cs : Array Value) (t : TypeId) (hn : b = w.heap.size) : Blk (w.alloc (.cells cs t)) b cs.toList := Blk.newE cs t hn
theorem bA (h : Blk w b l) (o : Obj) : Blk (w.alloc o) b l := h.alloc o
theorem bS {l0 : List Value} {i : Nat} {u : Value} (h : Blk w b l0) (hi : i < l0.length) (e : l0.set i u = l) : Blk (w.setCell ⟨b, i, none⟩ u) b l := h.setE hi e
theorem bO {b' i : Nat} {u : Value} (hb : b' ≠ b) (h : Blk w b l) : Blk (w.setCell ⟨b', i, none⟩ u) b l := h.other hb u
end
theorem bkP {w : World} {b : Nat} {l : List Value} (h : Blk w b l := by (show Blk _ _ _; repeat first | (with_reducible first | (refine xH ?_; assumption) | refine bD ?_ | refine bX ?_ _) | (with_reducible refine bN _ _ rfl ?_; first | with_reducible rfl | (simp; done)) | (with_reducible first | refine bA ?_ _ | assumption | apply bS) | (with_reducible refine bO ?_ ?_; first | omega | (simp; omega)) | (show List.set _ _ _ = _; exact rfl) | (show _ < List.length _; simp; done))) : Blk w b l := h
open Go.RowKit
def Grn (g : Nat) (w w' : World) : Prop := w.grownBy w' (some g)
section
variable {g : Nat} {w w' w'' : World}
theorem Grn.refl : Grn g w w := ⟨rfl, rfl, rfl, Nat.le_refl _, fun _ _ _ => rfl⟩
theorem Grn.of_ext (h : Ext w w') : Grn g w w' := by
 have hb := h.below
 exact ⟨hb.os, hb.tape, hb.output, hb.size, fun k hk _ => hb.block k hk⟩
theorem Grn.trans (h : Grn g w w') (k : Grn g w' w'') : Grn g w w'' := World.grownBy.trans h k
theorem Grn.ext (h : Grn g w w') (r : Xt) : Grn g w (ext w' r) := h.trans (Grn.of_ext ⟨r, rfl⟩)
theorem Grn.alloc (h : Grn g w w') (o : Obj) : Grn g w (w'.alloc o) := h.trans (Grn.of_ext (Ext.of_alloc _ _))
theorem Grn.drew (h : Grn g w w') : Grn g w w'.drew := h.trans (Grn.of_ext (Ext.refl _).drew)
theorem Grn.setCell (h : Grn g w w') (i : Nat) (u : Value) : Grn g w (w'.setCell ⟨g, i, none⟩ u) :=
 h.trans ⟨rfl, rfl, rfl, by rw [World.size_setCell]; exact Nat.le_refl _, fun k _ hne => Below.heap_setCell _ _ _ _ (by intro e; exact hne (by rw [e]))⟩
theorem Grn.size (h : Grn g w w') : w.heap.size ≤ w'.heap.size := World.grownBy.size h
theorem Grn.cell (h : Grn g w w') {b i : Nat} {v : Value} (hb : b ≠ g) (hc : w.cell? ⟨b, i, none⟩ = some v) : w'.cell? ⟨b, i, none⟩ = some v := by
 rw [World.cell?_of_block (w := w) (h.block b (World.block_lt_of_cell? w _ hc) (by simpa using hb))]; exact hc
theorem Ext.grn {W : World} (h : Ext W w) (k : Grn g w w') (hg : W.heap.size ≤ g) : Ext W w' :=
 Ext.of_below (h.below.grown k h.size (fun j hj => by cases hj; exact hg))
theorem Blk.grn {b : Nat} {l : List Value} (h : Blk w b l) (k : Grn g w w') (hb : b ≠ g) : Blk w' b l := by
 have e : w'.heap[b]? = w.heap[b]? := k.block b h.1 (by simpa using hb)
 exact ⟨Nat.lt_of_lt_of_le h.1 k.size, fun j => by rw [World.frozen?_of_block (w := w) e]; exact h.2.1 j, fun j v hv => by rw [World.cell?_of_block (w := w) e]; exact h.2.2 j v hv⟩
theorem Sl.grn {α : Type} {size : Nat} {enc : α → List Value} (henc : ∀ x, (enc x).length = size) {b o n c : Nat} {l : List α} (h : Sl w size enc (.slice (some ⟨b, o, none⟩) n c) l) (k : Grn g w w') (hb : b ≠ g) : Sl w' size enc (.slice (some ⟨b, o, none⟩) n c) l := by
 obtain ⟨a, c', hv, hm, hl⟩ := h
 simp only [Value.slice.injEq] at hv
 obtain ⟨rfl, rfl, rfl⟩ := hv
 refine ⟨_, _, rfl, hm, fun hn => ?_⟩
 obtain ⟨b', o', ha, hbl, hc⟩ := hl hn
 cases ha
 refine ⟨b, o, rfl, Nat.lt_of_lt_of_le hbl k.size, fun i x hx j hj => ?_⟩
 have h1 := hc i x hx j hj
 rw [List.getElem?_eq_getElem (by rw [henc]; exact hj)] at h1 ⊢
 exact k.cell hb h1
end
theorem gnP {g : Nat} {w w' : World} (h : Grn g w w' := by (show Grn _ _ _; repeat (first | with_reducible exact Grn.refl | with_reducible refine Grn.setCell ?_ _ _ | with_reducible refine Grn.ext ?_ _ | with_reducible refine Grn.alloc ?_ _ | with_reducible refine Grn.drew ?_))) : Grn g w w' := h
open Go.RowKit
section
variable {w w' w'' : World} {row : Option Nat}
theorem Gro.of_ext (h : Ext w w') (row : Option Nat) : w.grownBy w' row := by
 have hb := h.below
 exact ⟨hb.os, hb.tape, hb.output, hb.size, fun k hk _ => hb.block k hk⟩
theorem Blk.gro {b : Nat} {l : List Value} (h : Blk w b l) (k : w.grownBy w' row) (hb : row ≠ some b) : Blk w' b l := by
 have e : w'.heap[b]? = w.heap[b]? := k.block b h.1 (fun e => hb e.symm)
 exact ⟨Nat.lt_of_lt_of_le h.1 k.size, fun j => by rw [World.frozen?_of_block (w := w) e]; exact h.2.1 j, fun j v hv => by rw [World.cell?_of_block (w := w) e]; exact h.2.2 j v hv⟩
theorem Ext.gro {W : World} (h : Ext W w) (k : w.grownBy w' row) (hg : ∀ b, row = some b → W.heap.size ≤ b) : Ext W w' :=
 Ext.of_below (h.below.grown k h.size hg)
theorem Grn.gro {g : Nat} {W : World} (h : Grn g W w) (k : w.grownBy w' row) (hg : ∀ b, row = some b → W.heap.size ≤ b) : Grn g W w' :=
 ⟨k.os.trans h.os, k.tape.trans h.tape, k.output.trans h.output, Nat.le_trans h.size k.size, fun i hi hne => (k.block i (Nat.lt_of_lt_of_le hi h.size) (fun e => by have := hg i e.symm; omega)).trans (h.block i hi hne)⟩
section
variable {α : Type} {enc : α → List Value} {base : Nat} {e : TypeId} {size : Nat} {v : Value} {l : List α}
theorem Own.gro (h : Own w base e size enc v l) (k : w.grownBy w' row) (hne : v.ownBlock = none ∨ v.ownBlock ≠ row) : Own w' base e size enc v l := World.ownsRow.kept h k hne
theorem Own.bases (h : Own w base e size enc v l) : ∀ b, v.ownBlock = some b → base ≤ b := fun b hb => (World.ownsRow.lt h b hb).1
theorem Own.tops (h : Own w base e size enc v l) : ∀ b, v.ownBlock = some b → b < w.heap.size := fun b hb => (World.ownsRow.lt h b hb).2
theorem Own.not_at (h : Own w base e size enc v l) {b : Nat} (hb : b < base) : v.ownBlock ≠ some b := fun he => by have := h.bases b he; omega
end
def Two (v u : Value) : Prop := v.ownBlock = none ∨ v.ownBlock ≠ u.ownBlock
theorem Two.symm {v u : Value} (h : Two v u) : Two u v := by
 rcases h with h | h
 ·by_cases hu : u.ownBlock = none
  ·exact .inl hu
  ·exact .inr (by rw [h]; exact hu)
 ·exact .inr (fun e => h e.symm)
theorem Two.nil (u : Value) : Two (.slice none 0 0) u := .inl rfl
end
def Gr2 (a b : Nat) (w w' : World) : Prop := w.heap.size ≤ w'.heap.size ∧ ∀ j, j < w.heap.size → j ≠ a → j ≠ b → w'.heap[j]? = w.heap[j]?
section
variable {a b : Nat} {w w' : World}
theorem Gr2.refl : Gr2 a b w w := ⟨Nat.le_refl _, fun _ _ _ _ => rfl⟩
theorem Gr2.ext (h : Gr2 a b w w') (r : Xt) : Gr2 a b w (ext w' r) := ⟨by rw [size_ext]; exact Nat.le_trans h.1 (Nat.le_add_right _ _), fun j hj h1 h2 => (heap_ext w' r j (Nat.lt_of_lt_of_le hj h.1)).trans (h.2 j hj h1 h2)⟩
theorem Gr2.of (h : Gr2 a b w w') {w2 : World} (he : Ext w' w2) : Gr2 a b w w2 := by obtain ⟨r, rfl⟩ := he; exact h.ext r
theorem Gr2.alloc (h : Gr2 a b w w') (o : Obj) : Gr2 a b w (w'.alloc o) := h.of (Ext.of_alloc _ _)
theorem Gr2.drew (h : Gr2 a b w w') : Gr2 a b w w'.drew := h
theorem Gr2.setL (h : Gr2 a b w w') (i : Nat) (u : Value) : Gr2 a b w (w'.setCell ⟨a, i, none⟩ u) := ⟨by rw [World.size_setCell]; exact h.1, fun j hj h1 h2 => (Below.heap_setCell w' _ u j (by dsimp only; omega)).trans (h.2 j hj h1 h2)⟩
theorem Gr2.setR (h : Gr2 a b w w') (i : Nat) (u : Value) : Gr2 a b w (w'.setCell ⟨b, i, none⟩ u) := ⟨by rw [World.size_setCell]; exact h.1, fun j hj h1 h2 => (Below.heap_setCell w' _ u j (by dsimp only; omega)).trans (h.2 j hj h1 h2)⟩
theorem Gr2.cell (h : Gr2 a b w w') {n i : Nat} (h1 : n ≠ a) (h2 : n ≠ b) {v : Value} (hc : w.cell? ⟨n, i, none⟩ = some v) : w'.cell? ⟨n, i, none⟩ = some v := by
 rw [World.cell?_of_block (w := w) (h.2 n (World.block_lt_of_cell? w _ hc) h1 h2)]; exact hc
end
end Go.Proofs.YtiacdohaiidehaaGreatDoor
