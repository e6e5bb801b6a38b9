/- The walk of the statement ModelSwaps. -/
import Derived.Test.YtdodipejckigoaaRefM
import Derived.Test.YtdodipejckigoaaOnceWalk
import Derived.Test.YtdodipejckigoaaOpen
namespace Go.Proofs.Ytdodipejckigoaa
open Go.RowKit Go.ChangeShapes Go.WideShapes Go.Deep Go.Joins

section
variable {H : Type} {enc : TypeId × Value → H} {w : World} {base : Nat} {spare : Nat → Bool} {held : Bool}
/-- A row of entries. -/
def RowOk (w : World) (x : Option Addr × Nat × Nat) : Prop := ∃ es, Es w (.slice x.1 x.2.1 x.2.2) es ∧ ∀ e ∈ es, EnOk e
theorem row_of_trod (n : Nat) (cs : List Value) (x : DataW H × List MemPlace) (h : DataW.trod enc Try.prog w base spare held n 30 cs = some x) : ∃ a, RowOk w a ∧ cs = slE a := by
  obtain ⟨v, l, rfl, hs, hk⟩ := sl_of_trod (en := enE) Try.underlying30 (by kernel_rfl) (by omega) enE_len entry_of_trod h
  obtain ⟨a, c, rfl, _⟩ := id hs
  exact ⟨(a, l.length, c), ⟨l, hs, hk⟩, rfl⟩
theorem open_rows {r : Reach} {b0 : Nat} {v : Value} {d : DataW H} {p : List MemPlace} (hv : Value.okWide Try.prog w r b0 23 v) (h : DataW.Trod enc Try.prog w base spare held 23 v d p) : ∃ l, Sl w 1 slE v l ∧ ∀ a ∈ l, RowOk w a := by
  obtain ⟨a, n, c, rfl⟩ := okWide_slice Try.underlying23 hv
  obtain ⟨fuel, hf⟩ := h
  obtain ⟨v', l, hv', hs, hk⟩ := sl_of_trod (en := slE) Try.underlying23 (by kernel_rfl) (by omega) slE_len row_of_trod hf
  cases hv'
  exact ⟨l, hs, hk⟩
end

/-- The slice v reads as k, and lies outside block p. -/
def Nb (p : Nat) (w : World) (v : Value) (k : List Wd) : Prop := Wsl w v k ∧ ∀ a n c, v = .slice (some a) n c → a.block ≠ p
theorem Nb.of {p : Nat} {w w' : World} {v : Value} {k : List Wd} (h : Nb p w v k) (he : Ext w w') : Nb p w' v k := ⟨h.1.of wdE_len he, h.2⟩
theorem Nb.own {p : Nat} {w : World} {base : Nat} {v : Value} {k : List Wd} (h : Ws w base v k) (hp : p < base) : Nb p w v k := by
  refine ⟨Sl.of_own wdE_len h, fun a n c e => ?_⟩
  subst e
  have := (World.ownsRow.lt h a.block rfl).1
  omega
theorem Nb.under {p : Nat} {w : World} {base : Nat} {v : Value} {k : List Wd} (h : Ws w base v k) (hp : w.heap.size ≤ p) : Nb p w v k := by
  refine ⟨Sl.of_own wdE_len h, fun a n c e => ?_⟩
  subst e
  have := (World.ownsRow.lt h a.block rfl).2
  omega
theorem Nb.strong {p : Nat} {w w0 w' : World} {v v' : Value} {k k' : List Wd} (h : Nb p w v k) (hs : Wsl w' v' k') (ho : v' = v ∨ Ws w' w0.heap.size v' k') (hp : p < w0.heap.size) : Nb p w' v' k' := by
  rcases ho with rfl | ho
  · exact ⟨hs, h.2⟩
  · exact Nb.own ho hp
theorem Nb.set {p : Nat} {w : World} {v : Value} {k : List Wd} (h : Nb p w v k) (x : Value) : Nb p (w.setCell ⟨p, 0, none⟩ x) v k := by
  obtain ⟨⟨a, c, rfl, hm, hl⟩, hb⟩ := h
  refine ⟨⟨a, c, rfl, hm, fun hn => ?_⟩, hb⟩
  obtain ⟨b, o, rfl, hbl, hc⟩ := hl hn
  have hbp : b ≠ p := hb ⟨b, o, none⟩ _ _ rfl
  refine ⟨b, o, rfl, by rw [World.size_setCell]; exact hbl, fun i y hy j hj => ?_⟩
  rw [World.cell?_setCell_other _ _ _ _ (by intro h9; exact hbp (congrArg Addr.block h9).symm)]
  exact hc i y hy j hj

theorem free_set {l : List Wd} (h : Free l) (e : En) : Free (setW l e) := by
  unfold setW
  split
  · intro x hx
    rcases List.mem_or_eq_of_mem_set hx with h1 | rfl
    · exact h x h1
    · rfl
  · exact h
theorem free_setL : ∀ (es : List En) {l : List Wd}, Free l → Free (setL l es)
  | [], _, h => h
  | e :: r, l, h => free_setL r (l := setW l e) (free_set h e)

theorem swaps_cases (k : List Wd) (es : List En) : (checkE es ≠ 0 ∧ swapN k es = (k, false, checkE es)) ∨ (checkE es = 0 ∧ hasB k es = false ∧ holdsB k es = false ∧ swapN k es = (k, false, 1)) ∨
    (checkE es = 0 ∧ hasB k es = true ∧ holdsB k es = false ∧ swapN k es = (k, false, 0)) ∨ (checkE es = 0 ∧ hasB k es = true ∧ holdsB k es = true ∧ swapN k es = (setL k es, true, 0)) := by
  unfold swapN
  by_cases h0 : checkE es = 0
  · rw [if_neg (by rw [h0]; simp)]
    cases h1 : hasB k es
    · cases h2 : holdsB k es
      · exact .inr (.inl ⟨h0, rfl, rfl, by simp⟩)
      · rw [holds_has h2] at h1; cases h1
    · cases h2 : holdsB k es
      · exact .inr (.inr (.inl ⟨h0, rfl, rfl, by simp⟩))
      · exact .inr (.inr (.inr ⟨h0, rfl, rfl, by simp⟩))
  · exact .inl ⟨h0, by rw [if_pos h0]⟩
theorem check_ne {es : List En} (h : checkE es = 0) : es ≠ [] := by
  intro h0; subst h0; revert h; decide

set_option maxRecDepth 100000 in
set_option maxHeartbeats 2000000 in
theorem lswaps_any (w : World) (l : List Wd) (v : Value) (hv : Wsl w v l) (_ : ∀ a ∈ l, WdOk a) (vs : List (Option Addr × Nat × Nat)) (vl : Value) (hvl : Sl w 1 slE vl vs) (hes : ∀ x ∈ vs, RowOk w x) :
    Calls Try.prog 3 #[v, vl] w fun y w' => y = .returned (.bool true) ∧ ∃ r, w' = ext w r := by
  have HV := hid hv
  have HVL := hid hvl
  have HES := hid hes
  obtain ⟨a, c, rfl, ⟨hm, hlc⟩, _⟩ := hv
  obtain ⟨a2, c2, rfl, ⟨hm2, hlc2⟩, _⟩ := hvl
  clear hes
  cases hf : fewB l.length vs
  · have HF := hid hf
    clear hf
    go_enter Try.func3, Try.ntmps3
    go_wp2_with fail
    go_call (few_any l.length a c vs _ _ (HVL.out.of slE_len (by (show Ext _ _; repeat (first | with_reducible exact Ext.refl _ | with_reducible refine Ext.ext ?_ _ | with_reducible refine Ext.alloc ?_ _ | refine Ext.drew ?_ | refine Ext.drewN ?_ _ | exact Ext.refl _))))) as y w' ⟨rfl, r1, rfl⟩
    rw [HF.out]
    go_wp2_with fail
    go_call (awake_any _) as y w' ⟨rfl, r2, rfl⟩
    go_wp2_with fail
    go_ret
    exact ⟨rfl, by (show Ext _ _; repeat (first | with_reducible exact Ext.refl _ | with_reducible refine Ext.ext ?_ _ | with_reducible refine Ext.alloc ?_ _ | refine Ext.drew ?_ | refine Ext.drewN ?_ _ | exact Ext.refl _))⟩
  · have hl20 := (few_le hf).1
    have hvs20 := (few_le hf).2.1
    have H12 := hid (few_le hf).2.2
    have HF := hid hf
    clear hf
    have HL := hid (show (newL l).length ≤ 20 by simp [newL]; exact hl20)
    have HFR := hid (free_new l)
    go_enter Try.func3, Try.ntmps3
    go_wp2_with fail
    go_call (few_any l.length a c vs _ _ (HVL.out.of slE_len (by (show Ext _ _; repeat (first | with_reducible exact Ext.refl _ | with_reducible refine Ext.ext ?_ _ | with_reducible refine Ext.alloc ?_ _ | refine Ext.drew ?_ | refine Ext.drewN ?_ _ | exact Ext.refl _))))) as y w' ⟨rfl, r1, rfl⟩
    rw [HF.out]
    go_wp2_with fail
    go_call (new_any l _ _ (by omega) (HV.out.of wdE_len (by (show Ext _ _; repeat (first | with_reducible exact Ext.refl _ | with_reducible refine Ext.ext ?_ _ | with_reducible refine Ext.alloc ?_ _ | refine Ext.drew ?_ | refine Ext.drewN ?_ _ | exact Ext.refl _))))) as y w' ⟨v1, rfl, ⟨r2, rfl⟩, hv1⟩
    have HM1 := hid hv1
    clear hv1
    go_wp2_with fail
    go_call (rnew_any l _ _ (by omega) (HV.out.of wdE_len (by (show Ext _ _; repeat (first | with_reducible exact Ext.refl _ | with_reducible refine Ext.ext ?_ _ | with_reducible refine Ext.alloc ?_ _ | refine Ext.drew ?_ | refine Ext.drewN ?_ _ | exact Ext.refl _))))) as y w' ⟨v2, rfl, ⟨r3, rfl⟩, hv2⟩
    have HM := hid (Nb.under (HM1.out.of (by (show Ext _ _; repeat (first | with_reducible exact Ext.refl _ | with_reducible refine Ext.ext ?_ _ | with_reducible refine Ext.alloc ?_ _ | refine Ext.drew ?_ | refine Ext.drewN ?_ _ | exact Ext.refl _)))) (Nat.le_refl (ext (ext (ext w r1) r2) r3).heap.size))
    have HN := hid (Nb.under hv2 (Nat.le_refl (ext (ext (ext w r1) r2) r3).heap.size))
    clear hv2 HM1
    have HW := hid (show Ext w (ext (ext (ext w r1) r2) r3) by (show Ext _ _; repeat (first | with_reducible exact Ext.refl _ | with_reducible refine Ext.ext ?_ _ | with_reducible refine Ext.alloc ?_ _ | refine Ext.drew ?_ | refine Ext.drewN ?_ _ | exact Ext.refl _)))
    generalize ext (ext (ext w r1) r2) r3 = W at *
    have HVL1 := hid (HVL.out.of slE_len HW.out)
    generalize newL l = m at *
    obtain ⟨a1, c1, rfl, _, _⟩ := HM.out.1
    go_wp2_with fail
    go_loopw [6, 26] (fun u i wr => ∃ (j : Nat) (k : List Wd) (am : Option Addr) (cm : Nat), j ≤ vs.length ∧ i = .int .i64 j ∧ Hid (Free k) ∧ k.length ≤ 20 ∧ Hid (Nb W.heap.size wr (.slice am k.length cm) k) ∧ Hid (Nb W.heap.size wr u k) ∧ wr.cell? ⟨W.heap.size, 0, none⟩ = some (.slice am k.length cm) ∧ wr.frozen? ⟨W.heap.size, 0, none⟩ = false ∧ W.heap.size < wr.heap.size ∧ Ext W wr) (fun _ i _ => vs.length - (intOf i).toNat)
    case atStart => exact ⟨0, m, a1, c1, by omega, rfl, HFR, HL.out, HM.out.of (by (show Ext _ _; repeat (first | with_reducible exact Ext.refl _ | with_reducible refine Ext.ext ?_ _ | with_reducible refine Ext.alloc ?_ _ | refine Ext.drew ?_ | refine Ext.drewN ?_ _ | exact Ext.refl _))), HN.out.of (by (show Ext _ _; repeat (first | with_reducible exact Ext.refl _ | with_reducible refine Ext.ext ?_ _ | with_reducible refine Ext.alloc ?_ _ | refine Ext.drew ?_ | refine Ext.drewN ?_ _ | exact Ext.refl _))), by simp [go_sem], by simp [go_sem], by simp, by (show Ext _ _; repeat (first | with_reducible exact Ext.refl _ | with_reducible refine Ext.ext ?_ _ | with_reducible refine Ext.alloc ?_ _ | refine Ext.drew ?_ | refine Ext.drewN ?_ _ | exact Ext.refl _))⟩
    case round =>
      clear HM HN HFR HL
      obtain ⟨j, k, am, cm, hj, rfl, HFR, hk20, HM, HN, hcell, hfrz, hlt, hext⟩ := hrel
      have HX0 := hid hext
      clear hext
      by_cases hjl : j < vs.length
      · have hd : decide (j < vs.length) = true := decide_eq_true hjl
        obtain ⟨hnl, b, o, hab, hbl, hcs⟩ := Sl.at (HVL1.out.of slE_len HX0.out) (List.getElem?_eq_getElem hjl)
        obtain ⟨es, hes, hok⟩ := HES.out vs[j] (List.getElem_mem hjl)
        have hes12 := H12.out vs[j] (List.getElem_mem hjl)
        generalize vs[j] = x at hcs hes hes12
        obtain ⟨xa, xn, xc⟩ := x
        have HE := hid (hes.of enE_len (HW.out.trans HX0.out))
        have HO := hid hok
        subst hab
        have k0 := hcs 0 (by omega)
        simp [slE] at k0
        clear hcs hnl hes hok
        dsimp only at hes12
        rcases swaps_cases k es with ⟨q0, q1⟩ | ⟨q0, q1, q2, q3⟩ | ⟨q0, q1, q2, q3⟩ | ⟨q0, q1, q2, q3⟩
        · have Q1 := hid q1
          have hnn : (holdsB k es != holdsB k es) = false := by simp
          have hz : (checkE es == 0) = false := by simp [q0]
          have hz2 : (checkE es != checkE es) = false := by simp
          clear q0 q1
          have HEq := hid (show eqB k k = true from decide_eq_true rfl)
          go_wp2_with fail
          go_call (swap_strong k es _ _ _ (by omega) HO.out HM.out.1 HE.out) as y w' ⟨v3, rfl, ⟨r4, rfl⟩, hv3, ho3⟩
          rw [Q1.out] at hv3 ho3 ⊢
          dsimp only at hv3 ho3
          have HNX := hid (HM.out.strong hv3 ho3 hlt)
          clear ho3
          obtain ⟨a3, c3, rfl, _, _⟩ := hv3
          go_wp2_with fail
          go_call (holds_any k es _ _ _ (HM.out.1.of wdE_len (by (show Ext _ _; repeat (first | with_reducible exact Ext.refl _ | with_reducible refine Ext.ext ?_ _ | with_reducible refine Ext.alloc ?_ _ | refine Ext.drew ?_ | refine Ext.drewN ?_ _ | exact Ext.refl _)))) (HE.out.of enE_len (by (show Ext _ _; repeat (first | with_reducible exact Ext.refl _ | with_reducible refine Ext.ext ?_ _ | with_reducible refine Ext.alloc ?_ _ | refine Ext.drew ?_ | refine Ext.drewN ?_ _ | exact Ext.refl _))))) as y w' ⟨rfl, r5, rfl⟩
          go_wp2_with fail
          go_call (rholds_any k HFR.out es _ _ _ (HN.out.1.of wdE_len (by (show Ext _ _; repeat (first | with_reducible exact Ext.refl _ | with_reducible refine Ext.ext ?_ _ | with_reducible refine Ext.alloc ?_ _ | refine Ext.drew ?_ | refine Ext.drewN ?_ _ | exact Ext.refl _)))) (HE.out.of enE_len (by (show Ext _ _; repeat (first | with_reducible exact Ext.refl _ | with_reducible refine Ext.ext ?_ _ | with_reducible refine Ext.alloc ?_ _ | refine Ext.drew ?_ | refine Ext.drewN ?_ _ | exact Ext.refl _))))) as y w' ⟨rfl, r6, rfl⟩
          go_wp2_with fail
          go_call (echeck_any es _ HO.out _ (HE.out.of enE_len (by (show Ext _ _; repeat (first | with_reducible exact Ext.refl _ | with_reducible refine Ext.ext ?_ _ | with_reducible refine Ext.alloc ?_ _ | refine Ext.drew ?_ | refine Ext.drewN ?_ _ | exact Ext.refl _))))) as y w' ⟨rfl, r7, rfl⟩
          go_wp2_with fail
          go_call (is_any k k _ _ _ (by omega) (HNX.out.1.of wdE_len (by (show Ext _ _; repeat (first | with_reducible exact Ext.refl _ | with_reducible refine Ext.ext ?_ _ | with_reducible refine Ext.alloc ?_ _ | refine Ext.drew ?_ | refine Ext.drewN ?_ _ | exact Ext.refl _)))) (HN.out.1.of wdE_len (by (show Ext _ _; repeat (first | with_reducible exact Ext.refl _ | with_reducible refine Ext.ext ?_ _ | with_reducible refine Ext.alloc ?_ _ | refine Ext.drew ?_ | refine Ext.drewN ?_ _ | exact Ext.refl _))))) as y w' ⟨rfl, r10, rfl⟩
          rw [HEq.out]
          go_wp2_with fail
          go_call (is_any k k _ _ _ (by omega) (HM.out.1.of wdE_len (by (show Ext _ _; repeat (first | with_reducible exact Ext.refl _ | with_reducible refine Ext.ext ?_ _ | with_reducible refine Ext.alloc ?_ _ | refine Ext.drew ?_ | refine Ext.drewN ?_ _ | exact Ext.refl _)))) (HN.out.1.of wdE_len (by (show Ext _ _; repeat (first | with_reducible exact Ext.refl _ | with_reducible refine Ext.ext ?_ _ | with_reducible refine Ext.alloc ?_ _ | refine Ext.drew ?_ | refine Ext.drewN ?_ _ | exact Ext.refl _))))) as y w' ⟨rfl, r11, rfl⟩
          rw [HEq.out]
          go_wp2_with fail
          go_roundw
          case rel => exact ⟨j + 1, k, a3, c3, by omega, by go_num, HFR, hk20, (HNX.out.of (by (show Ext _ _; repeat (first | with_reducible exact Ext.refl _ | with_reducible refine Ext.ext ?_ _ | with_reducible refine Ext.alloc ?_ _ | refine Ext.drew ?_ | refine Ext.drewN ?_ _ | exact Ext.refl _)))).set _, (HN.out.of (by (show Ext _ _; repeat (first | with_reducible exact Ext.refl _ | with_reducible refine Ext.ext ?_ _ | with_reducible refine Ext.alloc ?_ _ | refine Ext.drew ?_ | refine Ext.drewN ?_ _ | exact Ext.refl _)))).set _, World.cell?_setCell_same _ _ _ ((show Ext wr _ by (show Ext _ _; repeat (first | with_reducible exact Ext.refl _ | with_reducible refine Ext.ext ?_ _ | with_reducible refine Ext.alloc ?_ _ | refine Ext.drew ?_ | refine Ext.drewN ?_ _ | exact Ext.refl _))).cell hcell), by simp [go_sem, hlt, hfrz], by simp; omega, Ext.setCell (HX0.out.trans (by (show Ext _ _; repeat (first | with_reducible exact Ext.refl _ | with_reducible refine Ext.ext ?_ _ | with_reducible refine Ext.alloc ?_ _ | refine Ext.drew ?_ | refine Ext.drewN ?_ _ | exact Ext.refl _)))) (Nat.le_refl _) _⟩
          case measure => simp [intOf]; omega
        · have Q1 := hid q3
          have Q0 := hid q0
          have Qh := hid q1
          have Q2 := hid q2
          clear q0 q1 q2 q3
          have HEq := hid (show eqB k k = true from decide_eq_true rfl)
          go_wp2_with fail
          go_call (swap_strong k es _ _ _ (by omega) HO.out HM.out.1 HE.out) as y w' ⟨v3, rfl, ⟨r4, rfl⟩, hv3, ho3⟩
          rw [Q1.out] at hv3 ho3 ⊢
          dsimp only at hv3 ho3
          have HNX := hid (HM.out.strong hv3 ho3 hlt)
          clear ho3
          obtain ⟨a3, c3, rfl, _, _⟩ := hv3
          go_wp2_with fail
          go_call (holds_any k es _ _ _ (HM.out.1.of wdE_len (by (show Ext _ _; repeat (first | with_reducible exact Ext.refl _ | with_reducible refine Ext.ext ?_ _ | with_reducible refine Ext.alloc ?_ _ | refine Ext.drew ?_ | refine Ext.drewN ?_ _ | exact Ext.refl _)))) (HE.out.of enE_len (by (show Ext _ _; repeat (first | with_reducible exact Ext.refl _ | with_reducible refine Ext.ext ?_ _ | with_reducible refine Ext.alloc ?_ _ | refine Ext.drew ?_ | refine Ext.drewN ?_ _ | exact Ext.refl _))))) as y w' ⟨rfl, r5, rfl⟩
          rw [Q2.out]
          go_wp2_with fail
          go_call (rholds_any k HFR.out es _ _ _ (HN.out.1.of wdE_len (by (show Ext _ _; repeat (first | with_reducible exact Ext.refl _ | with_reducible refine Ext.ext ?_ _ | with_reducible refine Ext.alloc ?_ _ | refine Ext.drew ?_ | refine Ext.drewN ?_ _ | exact Ext.refl _)))) (HE.out.of enE_len (by (show Ext _ _; repeat (first | with_reducible exact Ext.refl _ | with_reducible refine Ext.ext ?_ _ | with_reducible refine Ext.alloc ?_ _ | refine Ext.drew ?_ | refine Ext.drewN ?_ _ | exact Ext.refl _))))) as y w' ⟨rfl, r6, rfl⟩
          rw [Q2.out]
          go_wp2_with fail
          go_call (echeck_any es _ HO.out _ (HE.out.of enE_len (by (show Ext _ _; repeat (first | with_reducible exact Ext.refl _ | with_reducible refine Ext.ext ?_ _ | with_reducible refine Ext.alloc ?_ _ | refine Ext.drew ?_ | refine Ext.drewN ?_ _ | exact Ext.refl _))))) as y w' ⟨rfl, r7, rfl⟩
          rw [Q0.out]
          go_wp2_with fail
          go_call (rhas_any k es _ _ _ (HN.out.1.of wdE_len (by (show Ext _ _; repeat (first | with_reducible exact Ext.refl _ | with_reducible refine Ext.ext ?_ _ | with_reducible refine Ext.alloc ?_ _ | refine Ext.drew ?_ | refine Ext.drewN ?_ _ | exact Ext.refl _)))) (HE.out.of enE_len (by (show Ext _ _; repeat (first | with_reducible exact Ext.refl _ | with_reducible refine Ext.ext ?_ _ | with_reducible refine Ext.alloc ?_ _ | refine Ext.drew ?_ | refine Ext.drewN ?_ _ | exact Ext.refl _))))) as y w' ⟨rfl, r8, rfl⟩
          rw [Qh.out]
          go_wp2_with fail
          go_call (is_any k k _ _ _ (by omega) (HNX.out.1.of wdE_len (by (show Ext _ _; repeat (first | with_reducible exact Ext.refl _ | with_reducible refine Ext.ext ?_ _ | with_reducible refine Ext.alloc ?_ _ | refine Ext.drew ?_ | refine Ext.drewN ?_ _ | exact Ext.refl _)))) (HN.out.1.of wdE_len (by (show Ext _ _; repeat (first | with_reducible exact Ext.refl _ | with_reducible refine Ext.ext ?_ _ | with_reducible refine Ext.alloc ?_ _ | refine Ext.drew ?_ | refine Ext.drewN ?_ _ | exact Ext.refl _))))) as y w' ⟨rfl, r10, rfl⟩
          rw [HEq.out]
          go_wp2_with fail
          go_call (is_any k k _ _ _ (by omega) (HM.out.1.of wdE_len (by (show Ext _ _; repeat (first | with_reducible exact Ext.refl _ | with_reducible refine Ext.ext ?_ _ | with_reducible refine Ext.alloc ?_ _ | refine Ext.drew ?_ | refine Ext.drewN ?_ _ | exact Ext.refl _)))) (HN.out.1.of wdE_len (by (show Ext _ _; repeat (first | with_reducible exact Ext.refl _ | with_reducible refine Ext.ext ?_ _ | with_reducible refine Ext.alloc ?_ _ | refine Ext.drew ?_ | refine Ext.drewN ?_ _ | exact Ext.refl _))))) as y w' ⟨rfl, r11, rfl⟩
          rw [HEq.out]
          go_wp2_with fail
          go_roundw
          case rel => exact ⟨j + 1, k, a3, c3, by omega, by go_num, HFR, hk20, (HNX.out.of (by (show Ext _ _; repeat (first | with_reducible exact Ext.refl _ | with_reducible refine Ext.ext ?_ _ | with_reducible refine Ext.alloc ?_ _ | refine Ext.drew ?_ | refine Ext.drewN ?_ _ | exact Ext.refl _)))).set _, (HN.out.of (by (show Ext _ _; repeat (first | with_reducible exact Ext.refl _ | with_reducible refine Ext.ext ?_ _ | with_reducible refine Ext.alloc ?_ _ | refine Ext.drew ?_ | refine Ext.drewN ?_ _ | exact Ext.refl _)))).set _, World.cell?_setCell_same _ _ _ ((show Ext wr _ by (show Ext _ _; repeat (first | with_reducible exact Ext.refl _ | with_reducible refine Ext.ext ?_ _ | with_reducible refine Ext.alloc ?_ _ | refine Ext.drew ?_ | refine Ext.drewN ?_ _ | exact Ext.refl _))).cell hcell), by simp [go_sem, hlt, hfrz], by simp; omega, Ext.setCell (HX0.out.trans (by (show Ext _ _; repeat (first | with_reducible exact Ext.refl _ | with_reducible refine Ext.ext ?_ _ | with_reducible refine Ext.alloc ?_ _ | refine Ext.drew ?_ | refine Ext.drewN ?_ _ | exact Ext.refl _)))) (Nat.le_refl _) _⟩
          case measure => simp [intOf]; omega
        · have Q1 := hid q3
          have Q0 := hid q0
          have Qh := hid q1
          have Q2 := hid q2
          clear q0 q1 q2 q3
          have HEq := hid (show eqB k k = true from decide_eq_true rfl)
          go_wp2_with fail
          go_call (swap_strong k es _ _ _ (by omega) HO.out HM.out.1 HE.out) as y w' ⟨v3, rfl, ⟨r4, rfl⟩, hv3, ho3⟩
          rw [Q1.out] at hv3 ho3 ⊢
          dsimp only at hv3 ho3
          have HNX := hid (HM.out.strong hv3 ho3 hlt)
          clear ho3
          obtain ⟨a3, c3, rfl, _, _⟩ := hv3
          go_wp2_with fail
          go_call (holds_any k es _ _ _ (HM.out.1.of wdE_len (by (show Ext _ _; repeat (first | with_reducible exact Ext.refl _ | with_reducible refine Ext.ext ?_ _ | with_reducible refine Ext.alloc ?_ _ | refine Ext.drew ?_ | refine Ext.drewN ?_ _ | exact Ext.refl _)))) (HE.out.of enE_len (by (show Ext _ _; repeat (first | with_reducible exact Ext.refl _ | with_reducible refine Ext.ext ?_ _ | with_reducible refine Ext.alloc ?_ _ | refine Ext.drew ?_ | refine Ext.drewN ?_ _ | exact Ext.refl _))))) as y w' ⟨rfl, r5, rfl⟩
          rw [Q2.out]
          go_wp2_with fail
          go_call (rholds_any k HFR.out es _ _ _ (HN.out.1.of wdE_len (by (show Ext _ _; repeat (first | with_reducible exact Ext.refl _ | with_reducible refine Ext.ext ?_ _ | with_reducible refine Ext.alloc ?_ _ | refine Ext.drew ?_ | refine Ext.drewN ?_ _ | exact Ext.refl _)))) (HE.out.of enE_len (by (show Ext _ _; repeat (first | with_reducible exact Ext.refl _ | with_reducible refine Ext.ext ?_ _ | with_reducible refine Ext.alloc ?_ _ | refine Ext.drew ?_ | refine Ext.drewN ?_ _ | exact Ext.refl _))))) as y w' ⟨rfl, r6, rfl⟩
          rw [Q2.out]
          go_wp2_with fail
          go_call (echeck_any es _ HO.out _ (HE.out.of enE_len (by (show Ext _ _; repeat (first | with_reducible exact Ext.refl _ | with_reducible refine Ext.ext ?_ _ | with_reducible refine Ext.alloc ?_ _ | refine Ext.drew ?_ | refine Ext.drewN ?_ _ | exact Ext.refl _))))) as y w' ⟨rfl, r7, rfl⟩
          rw [Q0.out]
          go_wp2_with fail
          go_call (rhas_any k es _ _ _ (HN.out.1.of wdE_len (by (show Ext _ _; repeat (first | with_reducible exact Ext.refl _ | with_reducible refine Ext.ext ?_ _ | with_reducible refine Ext.alloc ?_ _ | refine Ext.drew ?_ | refine Ext.drewN ?_ _ | exact Ext.refl _)))) (HE.out.of enE_len (by (show Ext _ _; repeat (first | with_reducible exact Ext.refl _ | with_reducible refine Ext.ext ?_ _ | with_reducible refine Ext.alloc ?_ _ | refine Ext.drew ?_ | refine Ext.drewN ?_ _ | exact Ext.refl _))))) as y w' ⟨rfl, r8, rfl⟩
          rw [Qh.out]
          go_wp2_with fail
          go_call (rswap_any k HFR.out es _ _ _ (by omega) (check_ne Q0.out) (HN.out.1.of wdE_len (by (show Ext _ _; repeat (first | with_reducible exact Ext.refl _ | with_reducible refine Ext.ext ?_ _ | with_reducible refine Ext.alloc ?_ _ | refine Ext.drew ?_ | refine Ext.drewN ?_ _ | exact Ext.refl _)))) (HE.out.of enE_len (by (show Ext _ _; repeat (first | with_reducible exact Ext.refl _ | with_reducible refine Ext.ext ?_ _ | with_reducible refine Ext.alloc ?_ _ | refine Ext.drew ?_ | refine Ext.drewN ?_ _ | exact Ext.refl _))))) as y w' ⟨v9, rfl, ⟨r9, rfl⟩, hv9, ho9⟩
          rw [Q2.out] at hv9 ho9 ⊢
          simp only [if_true, Bool.false_eq_true, if_false] at hv9 ho9
          have HWT := hid ((HN.out.of (by (show Ext _ _; repeat (first | with_reducible exact Ext.refl _ | with_reducible refine Ext.ext ?_ _ | with_reducible refine Ext.alloc ?_ _ | refine Ext.drew ?_ | refine Ext.drewN ?_ _ | exact Ext.refl _)))).strong hv9 ho9 (by simp; omega))
          clear hv9 ho9
          go_wp2_with fail
          go_call (is_any k k _ _ _ (by omega) (HNX.out.1.of wdE_len (by (show Ext _ _; repeat (first | with_reducible exact Ext.refl _ | with_reducible refine Ext.ext ?_ _ | with_reducible refine Ext.alloc ?_ _ | refine Ext.drew ?_ | refine Ext.drewN ?_ _ | exact Ext.refl _)))) (HWT.out.1.of wdE_len (by (show Ext _ _; repeat (first | with_reducible exact Ext.refl _ | with_reducible refine Ext.ext ?_ _ | with_reducible refine Ext.alloc ?_ _ | refine Ext.drew ?_ | refine Ext.drewN ?_ _ | exact Ext.refl _))))) as y w' ⟨rfl, r10, rfl⟩
          rw [HEq.out]
          go_wp2_with fail
          go_call (is_any k k _ _ _ (by omega) (HM.out.1.of wdE_len (by (show Ext _ _; repeat (first | with_reducible exact Ext.refl _ | with_reducible refine Ext.ext ?_ _ | with_reducible refine Ext.alloc ?_ _ | refine Ext.drew ?_ | refine Ext.drewN ?_ _ | exact Ext.refl _)))) (HN.out.1.of wdE_len (by (show Ext _ _; repeat (first | with_reducible exact Ext.refl _ | with_reducible refine Ext.ext ?_ _ | with_reducible refine Ext.alloc ?_ _ | refine Ext.drew ?_ | refine Ext.drewN ?_ _ | exact Ext.refl _))))) as y w' ⟨rfl, r11, rfl⟩
          rw [HEq.out]
          go_wp2_with fail
          go_roundw
          case rel => exact ⟨j + 1, k, a3, c3, by omega, by go_num, HFR, hk20, (HNX.out.of (by (show Ext _ _; repeat (first | with_reducible exact Ext.refl _ | with_reducible refine Ext.ext ?_ _ | with_reducible refine Ext.alloc ?_ _ | refine Ext.drew ?_ | refine Ext.drewN ?_ _ | exact Ext.refl _)))).set _, (HWT.out.of (by (show Ext _ _; repeat (first | with_reducible exact Ext.refl _ | with_reducible refine Ext.ext ?_ _ | with_reducible refine Ext.alloc ?_ _ | refine Ext.drew ?_ | refine Ext.drewN ?_ _ | exact Ext.refl _)))).set _, World.cell?_setCell_same _ _ _ ((show Ext wr _ by (show Ext _ _; repeat (first | with_reducible exact Ext.refl _ | with_reducible refine Ext.ext ?_ _ | with_reducible refine Ext.alloc ?_ _ | refine Ext.drew ?_ | refine Ext.drewN ?_ _ | exact Ext.refl _))).cell hcell), by simp [go_sem, hlt, hfrz], by simp; omega, Ext.setCell (HX0.out.trans (by (show Ext _ _; repeat (first | with_reducible exact Ext.refl _ | with_reducible refine Ext.ext ?_ _ | with_reducible refine Ext.alloc ?_ _ | refine Ext.drew ?_ | refine Ext.drewN ?_ _ | exact Ext.refl _)))) (Nat.le_refl _) _⟩
          case measure => simp [intOf]; omega
        · have Q1 := hid q3
          have Q0 := hid q0
          have Qh := hid q1
          have Q2 := hid q2
          clear q0 q1 q2 q3
          have HEq := hid (show eqB k k = true from decide_eq_true rfl)
          have HEq2 := hid (show eqB (setL k es) (setL k es) = true from decide_eq_true rfl)
          have HLk := hid (show (setL k es).length = k.length from setL_len k es)
          have HF2 := hid (free_setL es HFR.out)
          go_wp2_with fail
          go_call (swap_strong k es _ _ _ (by omega) HO.out HM.out.1 HE.out) as y w' ⟨v3, rfl, ⟨r4, rfl⟩, hv3, ho3⟩
          rw [Q1.out] at hv3 ho3 ⊢
          dsimp only at hv3 ho3
          have HNX := hid (HM.out.strong hv3 ho3 hlt)
          clear ho3
          obtain ⟨a3, c3, rfl, _, _⟩ := hv3
          obtain ⟨k', hk'⟩ : ∃ k', k' = setL k es := ⟨_, rfl⟩
          rw [← hk'] at HNX HEq2 HLk HF2 Q1 ⊢
          have HS := hid hk'.symm
          clear hk'
          go_wp2_with fail
          go_call (holds_any k es _ _ _ (HM.out.1.of wdE_len (by (show Ext _ _; repeat (first | with_reducible exact Ext.refl _ | with_reducible refine Ext.ext ?_ _ | with_reducible refine Ext.alloc ?_ _ | refine Ext.drew ?_ | refine Ext.drewN ?_ _ | exact Ext.refl _)))) (HE.out.of enE_len (by (show Ext _ _; repeat (first | with_reducible exact Ext.refl _ | with_reducible refine Ext.ext ?_ _ | with_reducible refine Ext.alloc ?_ _ | refine Ext.drew ?_ | refine Ext.drewN ?_ _ | exact Ext.refl _))))) as y w' ⟨rfl, r5, rfl⟩
          rw [Q2.out]
          go_wp2_with fail
          go_call (rholds_any k HFR.out es _ _ _ (HN.out.1.of wdE_len (by (show Ext _ _; repeat (first | with_reducible exact Ext.refl _ | with_reducible refine Ext.ext ?_ _ | with_reducible refine Ext.alloc ?_ _ | refine Ext.drew ?_ | refine Ext.drewN ?_ _ | exact Ext.refl _)))) (HE.out.of enE_len (by (show Ext _ _; repeat (first | with_reducible exact Ext.refl _ | with_reducible refine Ext.ext ?_ _ | with_reducible refine Ext.alloc ?_ _ | refine Ext.drew ?_ | refine Ext.drewN ?_ _ | exact Ext.refl _))))) as y w' ⟨rfl, r6, rfl⟩
          rw [Q2.out]
          go_wp2_with fail
          go_call (echeck_any es _ HO.out _ (HE.out.of enE_len (by (show Ext _ _; repeat (first | with_reducible exact Ext.refl _ | with_reducible refine Ext.ext ?_ _ | with_reducible refine Ext.alloc ?_ _ | refine Ext.drew ?_ | refine Ext.drewN ?_ _ | exact Ext.refl _))))) as y w' ⟨rfl, r7, rfl⟩
          rw [Q0.out]
          go_wp2_with fail
          go_call (rhas_any k es _ _ _ (HN.out.1.of wdE_len (by (show Ext _ _; repeat (first | with_reducible exact Ext.refl _ | with_reducible refine Ext.ext ?_ _ | with_reducible refine Ext.alloc ?_ _ | refine Ext.drew ?_ | refine Ext.drewN ?_ _ | exact Ext.refl _)))) (HE.out.of enE_len (by (show Ext _ _; repeat (first | with_reducible exact Ext.refl _ | with_reducible refine Ext.ext ?_ _ | with_reducible refine Ext.alloc ?_ _ | refine Ext.drew ?_ | refine Ext.drewN ?_ _ | exact Ext.refl _))))) as y w' ⟨rfl, r8, rfl⟩
          rw [Qh.out]
          go_wp2_with fail
          go_call (rswap_any k HFR.out es _ _ _ (by omega) (check_ne Q0.out) (HN.out.1.of wdE_len (by (show Ext _ _; repeat (first | with_reducible exact Ext.refl _ | with_reducible refine Ext.ext ?_ _ | with_reducible refine Ext.alloc ?_ _ | refine Ext.drew ?_ | refine Ext.drewN ?_ _ | exact Ext.refl _)))) (HE.out.of enE_len (by (show Ext _ _; repeat (first | with_reducible exact Ext.refl _ | with_reducible refine Ext.ext ?_ _ | with_reducible refine Ext.alloc ?_ _ | refine Ext.drew ?_ | refine Ext.drewN ?_ _ | exact Ext.refl _))))) as y w' ⟨v9, rfl, ⟨r9, rfl⟩, hv9, ho9⟩
          rw [Q2.out] at hv9 ho9 ⊢
          simp only [if_true, Bool.false_eq_true, if_false, HS.out] at hv9 ho9
          have HWT := hid ((HN.out.of (by (show Ext _ _; repeat (first | with_reducible exact Ext.refl _ | with_reducible refine Ext.ext ?_ _ | with_reducible refine Ext.alloc ?_ _ | refine Ext.drew ?_ | refine Ext.drewN ?_ _ | exact Ext.refl _)))).strong hv9 ho9 (by simp; omega))
          clear hv9 ho9
          go_wp2_with fail
          go_call (is_any k' k' _ _ _ (by have := HLk.out; omega) (HNX.out.1.of wdE_len (by (show Ext _ _; repeat (first | with_reducible exact Ext.refl _ | with_reducible refine Ext.ext ?_ _ | with_reducible refine Ext.alloc ?_ _ | refine Ext.drew ?_ | refine Ext.drewN ?_ _ | exact Ext.refl _)))) (HWT.out.1.of wdE_len (by (show Ext _ _; repeat (first | with_reducible exact Ext.refl _ | with_reducible refine Ext.ext ?_ _ | with_reducible refine Ext.alloc ?_ _ | refine Ext.drew ?_ | refine Ext.drewN ?_ _ | exact Ext.refl _))))) as y w' ⟨rfl, r10, rfl⟩
          rw [HEq2.out]
          go_wp2_with fail
          go_call (is_any k k _ _ _ (by omega) (HM.out.1.of wdE_len (by (show Ext _ _; repeat (first | with_reducible exact Ext.refl _ | with_reducible refine Ext.ext ?_ _ | with_reducible refine Ext.alloc ?_ _ | refine Ext.drew ?_ | refine Ext.drewN ?_ _ | exact Ext.refl _)))) (HN.out.1.of wdE_len (by (show Ext _ _; repeat (first | with_reducible exact Ext.refl _ | with_reducible refine Ext.ext ?_ _ | with_reducible refine Ext.alloc ?_ _ | refine Ext.drew ?_ | refine Ext.drewN ?_ _ | exact Ext.refl _))))) as y w' ⟨rfl, r11, rfl⟩
          rw [HEq.out]
          go_wp2_with fail
          go_roundw
          case rel => exact ⟨j + 1, k', a3, c3, by omega, by go_num, HF2, by have := HLk.out; omega, (HNX.out.of (by (show Ext _ _; repeat (first | with_reducible exact Ext.refl _ | with_reducible refine Ext.ext ?_ _ | with_reducible refine Ext.alloc ?_ _ | refine Ext.drew ?_ | refine Ext.drewN ?_ _ | exact Ext.refl _)))).set _, (HWT.out.of (by (show Ext _ _; repeat (first | with_reducible exact Ext.refl _ | with_reducible refine Ext.ext ?_ _ | with_reducible refine Ext.alloc ?_ _ | refine Ext.drew ?_ | refine Ext.drewN ?_ _ | exact Ext.refl _)))).set _, World.cell?_setCell_same _ _ _ ((show Ext wr _ by (show Ext _ _; repeat (first | with_reducible exact Ext.refl _ | with_reducible refine Ext.ext ?_ _ | with_reducible refine Ext.alloc ?_ _ | refine Ext.drew ?_ | refine Ext.drewN ?_ _ | exact Ext.refl _))).cell hcell), by simp [go_sem, hlt, hfrz], by simp; omega, Ext.setCell (HX0.out.trans (by (show Ext _ _; repeat (first | with_reducible exact Ext.refl _ | with_reducible refine Ext.ext ?_ _ | with_reducible refine Ext.alloc ?_ _ | refine Ext.drew ?_ | refine Ext.drewN ?_ _ | exact Ext.refl _)))) (Nat.le_refl _) _⟩
          case measure => simp [intOf]; omega
      · have hd : decide (j < vs.length) = false := decide_eq_false hjl
        go_wp2_with fail
        go_call (awake_any _) as y w' ⟨rfl, r5, rfl⟩
        go_wp2_with fail
        go_ret
        exact ⟨rfl, (HW.out.trans HX0.out).trans (by (show Ext _ _; repeat (first | with_reducible exact Ext.refl _ | with_reducible refine Ext.ext ?_ _ | with_reducible refine Ext.alloc ?_ _ | refine Ext.drew ?_ | refine Ext.drewN ?_ _ | exact Ext.refl _)))⟩

end Go.Proofs.Ytdodipejckigoaa
