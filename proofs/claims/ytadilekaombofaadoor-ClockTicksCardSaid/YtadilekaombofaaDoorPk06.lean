/- General laws on append at a slice without spare room: the result is the call's own. No program in sight. -/
import Derived.Test.YtadilekaombofaaDoorPk01
import Derived.Maps.AppendAt
namespace Go.Proofs.YtadilekaombofaaDoor
set_option linter.unusedSimpArgs false
set_option linter.unusedVariables false
open Go.RowKit
theorem flat_len {α : Type} {enc : α → List Value} {size : Nat} (henc : ∀ x, (enc x).length = size) : ∀ (l : List α), (l.flatMap enc).length = l.length * size
 | [] => by simp
 | y :: ys => by simp only [List.flatMap_cons, List.length_append, henc, List.length_cons, Nat.add_mul]; rw [flat_len henc ys]; omega
section
variable {P : Program} {α : Type} {enc : α → List Value} {size : Nat} {l : List α} {w : World}
theorem run_append_clip {t ty e : TypeId} {i : TypeInfo} {z : Value} {bytes : Nat} (ht : P.underlying t = some (.slice e)) (hi : P.info? e = some i) (hz : i.zero = some z)
 (hsize : i.size = size) (hby : i.bytes = bytes) (hzs : z.cells.size = size) (hsz : 0 < size) (henc : ∀ x, (enc x).length = size) {sa : Option Addr} {n : Nat} (hsl : Sl w size enc (.slice sa n n) l)
 (ad : Addr) (m c : Nat) (news : List α) (hm : news.length = m) (hm0 : 0 < m) (hnews : ∀ (j : Nat) (u : Value), (news.flatMap enc)[j]? = some u → w.cell? (ad.add j) = some u)
 (hlen : n + m ≤ maxLen) (hbytes : (n + m) * bytes ≤ 140737488355328) :
 ∃ v' w', (Builtin.append_ #[t, t] ty #[.slice sa n n, .slice (some ad) m c]).run P w = .ok v' w' ∧ Own w' w.heap.size e size enc v' (l ++ news) ∧ Ext w w' := by
 subst hsize
 subst hby
 have hn : n = l.length := by
  obtain ⟨_, _, hv, _, _⟩ := hsl
  simp only [Value.slice.injEq] at hv
  exact hv.2.1
 have hlo : (l.flatMap enc).length = n * i.size := by rw [hn]; exact flat_len henc l
 have hln : (news.flatMap enc).length = m * i.size := by rw [← hm]; exact flat_len henc news
 have h63 : n + m ≤ 9223372036854775807 := by simp only [maxLen] at hlen; omega
 have hall : (l ++ news).flatMap enc = l.flatMap enc ++ news.flatMap enc := by simp
 have hal : (l ++ news).length = n + m := by rw [List.length_append, hm, hn]
 have grown : ∀ (old : Nat), old < n + m →
  Own (w.drew.alloc (.cells ((l.flatMap enc).toArray ++ (news.flatMap enc).toArray ++ Builtin.zeroCells z.cells (grownCap w (n + m) old e - (n + m))) e)) w.heap.size e i.size enc (.slice (some ⟨w.heap.size, 0, none⟩) (n + m) (grownCap w (n + m) old e)) (l ++ news) := by
  intro old ho
  have hge := grownCap_ge w (n + m) old e
  have hcm : grownCap w (n + m) old e ≤ maxLen := grownCap_le_maxLen w (n + m) old e hlen
  unfold Own
  rw [hal, hall]
  refine ⟨by rw [List.length_append, hlo, hln, Nat.add_mul], .inr ⟨w.heap.size, _, _, rfl, Nat.le_refl _, heap_alloc_new w.drew _, hge, hcm, ?_, ?_⟩⟩
  ·simp only [Array.size_append, List.size_toArray, size_zeroCells, hzs, hlo, hln, ← Nat.add_mul]
   congr 1
   omega
  ·simp only [Array.toList_append, List.append_assoc]
   rw [← List.append_assoc, show (n + m) * i.size = (l.flatMap enc ++ news.flatMap enc).length by rw [List.length_append, hlo, hln, Nat.add_mul]]
   exact List.take_left
 have hx : ∀ o, Ext w (w.drew.alloc o) := fun o => (Ext.refl w).drew.alloc o
 cases sa with
 | none =>
  have hl0 : l = [] := by
   cases l with
   | nil => rfl
   | cons x r => obtain ⟨_, _, hv, _, hq⟩ := hsl; obtain ⟨b, o, h, _⟩ := hq (by simp); simp only [Value.slice.injEq] at hv; rw [← hv.1] at h; cases h
  subst hl0
  have hn0 : n = 0 := hn
  subst hn0
  have hr := run_append_nil (P := P) w t ty e i z ht hi hz ad m c (news.flatMap enc) hln hnews (by omega) (by omega) (by have hb := hbytes; simp only [Nat.zero_add] at hb; omega)
  have hgr := grown 0 (by omega)
  simp only [Nat.zero_add, List.nil_append, List.flatMap_nil, Array.empty_append] at hgr ⊢
  exact ⟨_, _, hr, hgr, hx _⟩
 | some b =>
  have holds : ∀ j u, (l.flatMap enc)[j]? = some u → w.cell? (b.add j) = some u := by
   by_cases hl0 : l = []
   ·subst hl0; intro j u hj; simp at hj
   ·exact Sl.flat henc hsz hsl
  have hr := run_append_grow (P := P) w t ty e i z ht hi hz b n n (l.flatMap enc) hlo holds ad m c (news.flatMap enc) hln hnews (by omega) (by omega) (growslice_fits (by omega) hbytes)
  exact ⟨_, _, hr, grown n (by omega), hx _⟩
theorem app_clip_op {t e : TypeId} {i : TypeInfo} {z : Value} {bytes : Nat} (ht : P.underlying t = some (.slice e)) (hi : P.info? e = some i) (hz : i.zero = some z)
 (hsize : i.size = size) (hby : i.bytes = bytes) (hzs : z.cells.size = size) (hsz : 0 < size) (henc : ∀ x, (enc x).length = size)
 {o : Oper} {a : Act} {K : Act → World → Prop} {Q : Exit → Act → World → Prop}
 (s x : Operand) (ho : o.op = .call { callee := .builtin .append, args := #[s, x], argTypes := #[t, t] })
 {sa : Option Addr} {n : Nat} (hs : a.eval s = .slice sa n n) (hsl : Sl w size enc (.slice sa n n) l)
 (ad : Addr) (m c : Nat) (hx : a.eval x = .slice (some ad) m c) (news : List α) (hm : news.length = m) (hm0 : 0 < m)
 (hnews : ∀ (j : Nat) (u : Value), (news.flatMap enc)[j]? = some u → w.cell? (ad.add j) = some u)
 (hlen : n + m ≤ maxLen) (hbytes : (n + m) * bytes ≤ 140737488355328)
 (h : ∀ v' r, Own (ext w r) w.heap.size e size enc v' (l ++ news) → K (a.put o.dst v') (Go.Proofs.YtadilekaombofaaDoor.ext w r)) : Oper.wp P o a w K Q := by
 obtain ⟨v', w', hr, h1, h2⟩ := run_append_clip (P := P) (ty := o.type) ht hi hz hsize hby hzs hsz henc hsl ad m c news hm hm0 hnews hlen hbytes
 obtain ⟨r, rfl⟩ := h2
 unfold Oper.wp execOp
 simp only [ho, resolve, invoke, builtin, Sem.run_bind, Sem.run_pure, Result.andThen_ok, List.map_toArray, List.map_cons, List.map_nil, hs, hx, hr]
 exact h v' r h1
end
end Go.Proofs.YtadilekaombofaaDoor
