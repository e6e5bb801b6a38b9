/- Blocks of the call's own, as lists of cells. No program in sight. -/
import Derived.Test.YtojcojghnhibmaaDoorOwn
namespace Go.Proofs.YtojcojghnhibmaaDoor
open Go.RowKit

/-- A block of the call's own: its cells. -/
def Blk (w : World) (b : Nat) (l : List Value) : Prop := b < w.heap.size ∧ (∀ i, w.frozen? ⟨b, i, none⟩ = false) ∧ ∀ i u, l[i]? = some u → w.cell? ⟨b, i, none⟩ = some u

section
variable {w w' : World} {b : Nat} {l : List Value}
theorem Blk.of (h : Blk w b l) (he : Ext w w') : Blk w' b l := by
  obtain ⟨h1, h2, h3⟩ := h
  obtain ⟨r, rfl⟩ := he
  exact ⟨by rw [size_ext]; omega, fun i => by rw [frozen?_ext _ _ _ _ h1]; exact h2 i, fun i u hu => by rw [cell?_ext _ _ _ _ h1]; exact h3 i u hu⟩
/-- What lies below B stays. -/
theorem Blk.below {B : Nat} (h : Blk w b l) (hb : b < B) (he : Below B w w') : Blk w' b l :=
  ⟨Nat.lt_of_lt_of_le h.1 he.size, fun i => by rw [he.frozen (p := ⟨b, i, none⟩) hb]; exact h.2.1 i, fun i u hu => by rw [he.cell (p := ⟨b, i, none⟩) hb]; exact h.2.2 i u hu⟩
theorem Blk.ext (h : Blk w b l) (r : Xt) : Blk (ext w r) b l := h.of ⟨r, rfl⟩
theorem Blk.alloc (h : Blk w b l) (o : Obj) : Blk (w.alloc o) b l := h.of (Ext.of_alloc w o)
theorem Blk.drew (h : Blk w b l) : Blk w.drew b l := h
theorem Blk.new (cs : Array Value) (t : TypeId) (hc : cs.toList = l) (hn : b = w.heap.size) : Blk (w.alloc (.cells cs t)) b l := by
  subst hn hc
  refine ⟨by simp, fun i => ?_, fun i u hu => ?_⟩
  · simp [go_sem]
  · rw [World.cell?_alloc_at _ _ _ _ rfl]; simpa using hu
theorem Blk.other (h : Blk w b l) {b' i : Nat} (hb : b' ≠ b) (u : Value) : Blk (w.setCell ⟨b', i, none⟩ u) b l := by
  have e : (w.setCell ⟨b', i, none⟩ u).heap[b]? = w.heap[b]? := Below.heap_setCell w _ u b (by dsimp only; omega)
  exact ⟨by rw [World.size_setCell]; exact h.1, fun j => by rw [World.frozen?_of_block (w := w) e]; exact h.2.1 j, fun j v hv => by rw [World.cell?_of_block (w := w) e]; exact h.2.2 j v hv⟩
theorem Blk.other' {b' i : Nat} {u : Value} (hb : b' ≠ b) (h : Blk w b l) : Blk (w.setCell ⟨b', i, none⟩ u) b l := h.other hb u
theorem Blk.set (h : Blk w b l) (i : Nat) (hi : i < l.length) (u : Value) : Blk (w.setCell ⟨b, i, none⟩ u) b (l.set i u) := by
  obtain ⟨h1, h2, h3⟩ := h
  have hc : w.cell? ⟨b, i, none⟩ = some l[i] := h3 i _ (List.getElem?_eq_getElem hi)
  refine ⟨by rw [World.size_setCell]; exact h1, fun j => ?_, fun j v hv => ?_⟩
  · rw [World.frozen?_setCell]; exact h2 j
  · by_cases hj : i = j
    · subst hj
      rw [List.getElem?_set_self hi] at hv
      rw [← hv]
      exact World.cell?_setCell_same _ _ _ hc
    · rw [List.getElem?_set_ne hj] at hv
      rw [World.cell?_setCell_other _ _ _ _ (by simp [hj])]
      exact h3 j v hv
theorem Blk.setE {l0 : List Value} {i : Nat} {u : Value} (h : Blk w b l0) (hi : i < l0.length) (e : l0.set i u = l) : Blk (w.setCell ⟨b, i, none⟩ u) b l := e ▸ h.set i hi u
end

/-- What is owned from base on stays while a cell below is written. -/
theorem Own.under {α : Type} {enc : α → List Value} {base : Nat} {e : TypeId} {size : Nat} {v : Value} {l : List α} {w : World} (h : Own w base e size enc v l) {b i : Nat} (hb : b < base) (u : Value) : Own (w.setCell ⟨b, i, none⟩ u) base e size enc v l :=
  ownsRow_setCell_below h hb u

/-- 'append(s, x...)', s the call's own: of W all stays, and of the present world all below 'base'. -/
theorem own_append_b {α : Type} {enc : α → List Value} {base : Nat} {e : TypeId} {size : Nat} {v : Value} {l : List α} {w : World} {P : Program} {t : TypeId} {i : TypeInfo} {z : Value} {bytes : Nat} (ht : P.underlying t = some (.slice e)) (hi : P.info? e = some i) (hz : i.zero = some z)
    (hsize : i.size = size) (hby : i.bytes = bytes) (hzs : z.cells.size = size) (hsz : 0 < size) (henc : ∀ x, (enc x).length = size) (hone : ∀ x, ∀ u ∈ enc x, u.oneCell' = true)
    {ops : Array Oper} {rest : List Oper} {o : Oper} {a : Act} {Q : Exit → Act → World → Prop} (hgd : o.guard = none)
    (s x : Operand) (ho : o.op = .call { callee := .builtin .append, args := #[s, x], argTypes := #[t, t] })
    (W : World) (hW : Ext W w) (hWb : W.heap.size ≤ base) (hbw : base ≤ w.heap.size) (hs : a.eval s = v) (hown : Own w base e size enc v l)
    (ad : Addr) (m c : Nat) (hx : a.eval x = .slice (some ad) m c) (news : List α) (hm : news.length = m)
    (hnews : ∀ (j : Nat) (u : Value), (news.flatMap enc)[j]? = some u → w.cell? (ad.add j) = some u)
    (hlen : l.length + m ≤ maxLen) (hbytes : (l.length + m) * bytes ≤ 140737488355328)
    (h : ∀ v' w', Own w' base e size enc v' (l ++ news) → Ext W w' → Below base w w' → wpList P ops Q rest (a.put o.dst v') w') : wpList P ops Q (o :: rest) a w := by
  have hl : (news.flatMap enc).length = m * size := by
    subst hm
    clear hnews hx hlen hbytes h
    induction news with
    | nil => simp
    | cons y ys ih => simp only [List.flatMap_cons, List.length_append, henc, List.length_cons, Nat.add_mul]; rw [ih]; omega
  refine wpList_append_own w hgd s x t ho base e i z size bytes ht hi hz hsize hby hzs hsz v l.length (l.flatMap enc) hs hown ad m c (news.flatMap enc) hx hl hnews
    (fun u hu => by obtain ⟨y, _, hy⟩ := List.mem_flatMap.1 hu; exact hone y u hy) hlen hbytes hbw ?_
  intro v' w' hown' hg _
  have hlt : ∀ k, v.ownBlock = some k → base ≤ k := fun k hk => (World.ownsRow.lt hown k hk).1
  refine h v' w' ?_ (Ext.of_below ((hW.below).grown hg hW.size (fun k hk => by have := hlt k hk; omega))) ((Below.refl base w).grown hg hbw hlt)
  have e1 : (l ++ news).length = l.length + m := by simp [hm]
  have e2 : (l ++ news).flatMap enc = l.flatMap enc ++ news.flatMap enc := by simp
  unfold Own
  rw [e1, e2]
  exact hown'

/-- The same at the operation itself: of W all stays, and of the present world all below 'base'. -/
theorem own_append_bop {α : Type} {enc : α → List Value} {base : Nat} {e : TypeId} {size : Nat} {v : Value} {l : List α} {w : World} {P : Program} {t : TypeId} {i : TypeInfo} {z : Value} {bytes : Nat} (ht : P.underlying t = some (.slice e)) (hi : P.info? e = some i) (hz : i.zero = some z)
    (hsize : i.size = size) (hby : i.bytes = bytes) (hzs : z.cells.size = size) (hsz : 0 < size) (henc : ∀ x, (enc x).length = size) (hone : ∀ x, ∀ u ∈ enc x, u.oneCell' = true)
    {o : Oper} {a : Act} {K : Act → World → Prop} {Q : Exit → Act → World → Prop}
    (s x : Operand) (ho : o.op = .call { callee := .builtin .append, args := #[s, x], argTypes := #[t, t] })
    (W : World) (hW : Ext W w) (hWb : W.heap.size ≤ base) (hbw : base ≤ w.heap.size) (hs : a.eval s = v) (hown : Own w base e size enc v l)
    (ad : Addr) (m c : Nat) (hx : a.eval x = .slice (some ad) m c) (news : List α) (hm : news.length = m)
    (hnews : ∀ (j : Nat) (u : Value), (news.flatMap enc)[j]? = some u → w.cell? (ad.add j) = some u)
    (hlen : l.length + m ≤ maxLen) (hbytes : (l.length + m) * bytes ≤ 140737488355328)
    (h : ∀ v' w', Own w' base e size enc v' (l ++ news) → Ext W w' → Below base w w' → K (a.put o.dst v') w') : Oper.wp P o a w K Q := by
  have hl : (news.flatMap enc).length = m * size := by
    subst hm
    clear hnews hx hlen hbytes h
    induction news with
    | nil => simp
    | cons y ys ih => simp only [List.flatMap_cons, List.length_append, henc, List.length_cons, Nat.add_mul]; rw [ih]; omega
  refine wp_append_own w s x t ho base e i z size bytes ht hi hz hsize hby hzs hsz v l.length (l.flatMap enc) hs hown ad m c (news.flatMap enc) hx hl hnews
    (fun u hu => by obtain ⟨y, _, hy⟩ := List.mem_flatMap.1 hu; exact hone y u hy) hlen hbytes hbw ?_
  intro v' w' hown' hg _
  have hlt : ∀ k, v.ownBlock = some k → base ≤ k := fun k hk => (World.ownsRow.lt hown k hk).1
  refine h v' w' ?_ (Ext.of_below ((hW.below).grown hg hW.size (fun k hk => by have := hlt k hk; omega))) ((Below.refl base w).grown hg hbw hlt)
  have e1 : (l ++ news).length = l.length + m := by simp [hm]
  have e2 : (l ++ news).flatMap enc = l.flatMap enc ++ news.flatMap enc := by simp
  unfold Own
  rw [e1, e2]
  exact hown'

end Go.Proofs.YtojcojghnhibmaaDoor
