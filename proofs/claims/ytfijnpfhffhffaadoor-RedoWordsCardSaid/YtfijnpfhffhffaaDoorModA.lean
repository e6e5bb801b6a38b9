/- Walks of package model's New, At, Len, Words, and slices.Clone on words. -/
import Derived.Test.YtfijnpfhffhffaaDoorEntC
namespace Go.Proofs.YtfijnpfhffhffaaDoor
set_option linter.unusedSimpArgs false
set_option linter.unusedVariables false
open Go.RowKit

/-- The slice v reads as these words. -/
abbrev Wsl (w : World) (v : Value) (l : List Wd) : Prop := Sl w 3 wdE v l
theorem mwdE_one (e : Wd) : ∀ u ∈ wdE e, u.oneCell' = true := by
  intro u hu
  simp only [wdE, List.mem_cons, List.not_mem_nil, or_false] at hu
  rcases hu with rfl | rfl | rfl <;> rfl

theorem mws_append {ops : Array Oper} {rest : List Oper} {o : Oper} {a : Act} {Q : Exit → Act → World → Prop} {w : World} {base : Nat} {v : Value} {l : List Wd} (hgd : o.guard = none)
    (s x : Operand) (ho : o.op = .call { callee := .builtin .append, args := #[s, x], argTypes := #[31, 31] })
    (W : World) (hW : Ext W w) (hWb : W.heap.size ≤ base) (hbw : base ≤ w.heap.size) (hs : a.eval s = v) (hown : Ws w base v l)
    (ad : Addr) (m c : Nat) (hx : a.eval x = .slice (some ad) m c) (news : List Wd) (hm : news.length = m)
    (hnews : ∀ (j : Nat) (u : Value), (news.flatMap wdE)[j]? = some u → w.cell? (ad.add j) = some u)
    (hlen : l.length + m ≤ 1000000)
    (h : ∀ v' r, Ws (ext W r) base v' (l ++ news) → wpList Tryd.prog ops Q rest (a.put o.dst v') (ext W r)) : wpList Tryd.prog ops Q (o :: rest) a w := by
  obtain ⟨i0, hi, hz0, hz1, hz2⟩ := info_parts Tryd.infoWord
  exact own_append Tryd.underlying31 hi hz0 hz1 hz2 rfl (by decide) wdE_len mwdE_one hgd s x ho W hW hWb hbw hs hown ad m c hx news hm hnews (by unfold maxLen; omega) (by omega) h

set_option maxHeartbeats 1000000 in
theorem clone_any (l : List Wd) (v : Value) (w : World) (hl : l.length ≤ 100000) (hv : Wsl w v l) :
    Calls Tryd.prog 31 #[v] w fun y w' => ∃ v', y = .returned v' ∧ (∃ r, w' = ext w r) ∧ Ws w' w.heap.size v' l := by
  have HV := hid hv
  obtain ⟨a, c, rfl, ⟨hm, hlc⟩, hr⟩ := hv
  have hnil := fun (w : World) (a : Option Addr) (n c : Nat) => Lib.run_eql_slice_nil (P := Tryd.prog) w 31 60 a n c 0 0 Tryd.underlying31
  cases a with
  | none =>
    have hl0 : l = [] := by
      cases l with
      | nil => rfl
      | cons x r => obtain ⟨b, o, h, _⟩ := hr (by simp); cases h
    clear hr HV
    go_enter Tryd.func31, Tryd.ntmps31
    go_wp2_with fail
    go_ret
    exact ⟨_, rfl, by (show Ext _ _; repeat (first | with_reducible (refine Hid.out ?_; assumption) | with_reducible exact Ext.refl _ | with_reducible refine Ext.ext ?_ _ | with_reducible refine Ext.alloc ?_ _ | refine Ext.drew ?_ | refine Ext.drewN ?_ _ | exact Ext.refl _)), by rw [hl0]; exact Own.nil⟩
  | some ad =>
    have HF := hid (Sl.flat wdE_len (by omega) HV.out)
    have HN := hid (show ([] : List Wd) ++ l = l from rfl)
    have hb : w.heap.size ≤ (w.alloc (.cells #[] 60)).heap.size := by simp
    clear hr HV
    go_enter Tryd.func31, Tryd.ntmps31
    go_wp2_with (at_builtin; refine mws_append rfl _ _ rfl w (by (show Ext _ _; repeat (first | with_reducible (refine Hid.out ?_; assumption) | with_reducible exact Ext.refl _ | with_reducible refine Ext.ext ?_ _ | with_reducible refine Ext.alloc ?_ _ | refine Ext.drew ?_ | refine Ext.drewN ?_ _ | exact Ext.refl _))) (Nat.le_refl _) (by (first | exact Nat.le_refl _ | (simp; done) | (simp; omega))) rfl (Own.made #[] [] 0 rfl (Nat.le_refl _) (by unfold maxLen; omega) rfl rfl) ad l.length c rfl l rfl (fun j u hu => Ext.cell (Ext.of_alloc _ _) (HF.out j u hu)) (by simp; omega) ?_; rintro v' r' hv')
    go_ret
    exact ⟨_, rfl, by (show Ext _ _; repeat (first | with_reducible (refine Hid.out ?_; assumption) | with_reducible exact Ext.refl _ | with_reducible refine Ext.ext ?_ _ | with_reducible refine Ext.alloc ?_ _ | refine Ext.drew ?_ | refine Ext.drewN ?_ _ | exact Ext.refl _)), hv'⟩

/-- Plain: the words of a new model. -/
def clr (x : Wd) : Wd := (x.1, x.2.1, 0)
def newL (l : List Wd) : List Wd := l.map clr
def newTo (l : List Wd) (j : Nat) : List Wd := (l.take j).map clr ++ l.drop j
theorem newTo_succ {l : List Wd} {j : Nat} {x : Wd} (h : l[j]? = some x) : newTo l (j + 1) = (newTo l j).set j (clr x) := by
  obtain ⟨hj, hk⟩ := List.getElem?_eq_some_iff.1 h
  unfold newTo
  rw [List.take_succ_eq_append_getElem hj, List.map_append, List.drop_eq_getElem_cons hj, hk, List.set_append_right _ _ (by simp; omega)]
  simp [Nat.min_eq_left (Nat.le_of_lt hj)]
theorem newTo_at {l : List Wd} {j : Nat} {x : Wd} (h : l[j]? = some x) : (newTo l j)[j]? = some x := by
  obtain ⟨hj, hk⟩ := List.getElem?_eq_some_iff.1 h
  unfold newTo
  rw [List.getElem?_append_right (by simp; omega)]
  simp [Nat.min_eq_left (Nat.le_of_lt hj), h]
theorem newTo_len (l : List Wd) (j : Nat) : (newTo l j).length = l.length := by
  simp [newTo]; omega
theorem newTo_end (l : List Wd) : newTo l l.length = newL l := by simp [newTo, newL]

end Go.Proofs.YtfijnpfhffhffaaDoor
