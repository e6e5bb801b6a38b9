/- Walks of the reference of models: New, Holds, Has, Swap. -/
import Derived.Test.YtdodipejckigoaaLawN
import Derived.Test.YtdodipejckigoaaModLaw
import Derived.Test.YtdodipejckigoaaHeld
namespace Go.Proofs.Ytdodipejckigoaa
open Go.RowKit

theorem ws_append_op {o : Oper} {a : Act} {K : Act → World → Prop} {Q : Exit → Act → World → Prop} {w : World} {base : Nat} {v : Value} {l : List Wd}
    (s x : Operand) (ho : o.op = .call { callee := .builtin .append, args := #[s, x], argTypes := #[22, 22] })
    (W : World) (hW : Ext W w) (hWb : W.heap.size ≤ base) (hbw : base ≤ w.heap.size) (hs : a.eval s = v) (hown : Ws w base v l)
    (ad : Addr) (m c : Nat) (hx : a.eval x = .slice (some ad) m c) (news : List Wd) (hm : news.length = m)
    (hnews : ∀ (j : Nat) (u : Value), (news.flatMap wdE)[j]? = some u → w.cell? (ad.add j) = some u)
    (hlen : l.length + m ≤ 1000000)
    (h : ∀ v' r, Ws (ext W r) base v' (l ++ news) → K (a.put o.dst v') (ext W r)) : Oper.wp Try.prog o a w K Q := by
  obtain ⟨i0, hi, hz0, hz1, hz2⟩ := info_parts Try.infoWord
  exact own_append_op Try.underlying22 hi hz0 hz1 hz2 rfl (by decide) wdE_len wdE_one s x ho W hW hWb hbw hs hown ad m c hx news hm hnews (by unfold maxLen; omega) (by omega) h

theorem cell_far {W w' : World} (hE : Ext W w') {b o : Nat} (hb : b < W.heap.size) : w'.cell? ⟨b, o, none⟩ = W.cell? ⟨b, o, none⟩ := hE.below.cell (p := ⟨b, o, none⟩) hb

theorem newL_at {l : List Wd} {j : Nat} {x : Wd} (h : l[j]? = some x) : newL (l.take (j + 1)) = newL (l.take j) ++ [clr x] := by
  obtain ⟨hj, hk⟩ := List.getElem?_eq_some_iff.1 h
  unfold newL
  rw [List.take_succ_eq_append_getElem hj, hk, List.map_append]
  rfl

set_option maxHeartbeats 1000000 in
theorem rnew_any (l : List Wd) (v : Value) (w : World) (hl : l.length ≤ 1000) (hv : Wsl w v l) :
    Calls Try.prog 11 #[v] w fun y w' => ∃ v', y = .returned v' ∧ (∃ r, w' = ext w r) ∧ Ws w' w.heap.size v' (newL l) := by
  have HV := hid hv
  obtain ⟨a, c, rfl, ⟨hm, hlc⟩, _⟩ := hv
  go_enter Try.func11, Try.ntmps11
  go_wp2_with fail
  go_loopw [3, 4] (fun u i wr => ∃ j : Nat, j ≤ l.length ∧ i = .int .i64 j ∧ Ws wr w.heap.size u (newL (l.take j)) ∧ Ext w wr) (fun _ i _ => l.length - (intOf i).toNat)
  case atStart => exact ⟨0, by omega, rfl, Own.nil, by (show Ext _ _; repeat (first | with_reducible exact Ext.refl _ | with_reducible refine Ext.ext ?_ _ | with_reducible refine Ext.alloc ?_ _ | refine Ext.drew ?_ | refine Ext.drewN ?_ _ | exact Ext.refl _))⟩
  case round =>
    obtain ⟨j, hj, rfl, hown, r, rfl⟩ := hrel
    by_cases hjl : j < l.length
    · have hd : decide (j < l.length) = true := decide_eq_true hjl
      obtain ⟨hnl, b, o, hab, hbl, hcs⟩ := Sl.at HV.out (List.getElem?_eq_getElem hjl)
      have HX := hid (List.getElem?_eq_getElem hjl)
      have HA := hid (newL_at HX.out)
      have HLn := hid (show (newL (l.take j)).length ≤ 1000 by simp [newL]; omega)
      generalize l[j] = x at hcs HX HA
      obtain ⟨x1, x2, x3⟩ := x
      subst hab
      have c0 := hcs 0 (by omega)
      have c1 := hcs 1 (by omega)
      have c2 := hcs 2 (by omega)
      simp [wdE] at c0 c1 c2
      have HO := hid hown
      clear hcs hnl hown
      go_wp2_with fail
      refine wp_region_held_drew (S := fun w' => w'.cell? ⟨b, o + j * 3, none⟩ = some (.int .i64 x1) ∧ w'.cell? ⟨b, o + j * 3 + 1, none⟩ = some (.int .u32 x2)) (by kernel_rfl) (⟨by simp [go_sem, hbl, c0], by simp [go_sem, hbl, c1]⟩) (fun hHeld => ?_)
      refine take_met 0 (oi := ⟨_, _, _, _, _, _⟩) (v := ?_) (by kernel_rfl) rfl (by rfl) (fun _ _ _ h => h) (by assumption) ?_ ?_
      rotate_left 1
      · intro w hSw
        try dsimp only at hSw
        go_simp
        try with_reducible rfl
      (try simp only [Act.put, List.setIfInBounds_toArray, List.set_cons_zero, List.set_cons_succ])
      refine take_met 1 (oi := ⟨_, _, _, _, _, _⟩) (v := ?_) (by kernel_rfl) rfl (by rfl) (fun _ _ _ h => h) (by assumption) ?_ ?_
      rotate_left 1
      · intro w hSw
        try dsimp only at hSw
        go_simp
        try with_reducible rfl
      (try simp only [Act.put, List.setIfInBounds_toArray, List.set_cons_zero, List.set_cons_succ])
      refine take_met 2 (oi := ⟨_, _, _, _, _, _⟩) (v := ?_) (by kernel_rfl) rfl (by rfl) (fun _ _ _ h => h) (by assumption) ?_ ?_
      rotate_left 1
      · intro w hSw
        try dsimp only at hSw
        go_simp
        try with_reducible rfl
      (try simp only [Act.put, List.setIfInBounds_toArray, List.set_cons_zero, List.set_cons_succ])
      refine take_met 3 (oi := ⟨_, _, _, _, _, _⟩) (v := ?_) (by kernel_rfl) rfl (by rfl) (fun _ _ _ h => h) (by assumption) ?_ ?_
      rotate_left 1
      · intro w hSw
        try dsimp only at hSw
        go_simp
        try with_reducible rfl
      (try simp only [Act.put, List.setIfInBounds_toArray, List.set_cons_zero, List.set_cons_succ])
      refine take_met 4 (oi := ⟨_, _, _, _, _, _⟩) (v := ?_) (by kernel_rfl) rfl (by rfl) (fun _ _ _ h => h) (by assumption) ?_ ?_
      rotate_left 1
      · intro w hSw
        try dsimp only at hSw
        go_simp
        try with_reducible rfl
      (try simp only [Act.put, List.setIfInBounds_toArray, List.set_cons_zero, List.set_cons_succ])
      refine take_met 5 (oi := ⟨_, _, _, _, _, _⟩) (v := ?_) (by kernel_rfl) rfl (by rfl) (fun _ _ _ h => h) (by assumption) ?_ ?_
      rotate_left 1
      · intro w hSw
        try dsimp only at hSw
        go_simp
        try with_reducible rfl
      (try simp only [Act.put, List.setIfInBounds_toArray, List.set_cons_zero, List.set_cons_succ])
      refine take_met 6 (oi := ⟨_, _, _, _, _, _⟩) (v := ?_) (by kernel_rfl) rfl (by rfl) (fun _ _ _ h => h) (by assumption) ?_ ?_
      rotate_left 1
      · intro w hSw
        try dsimp only at hSw
        go_simp
        try with_reducible rfl
      (try simp only [Act.put, List.setIfInBounds_toArray, List.set_cons_zero, List.set_cons_succ])
      refine take_met 7 (oi := ⟨_, _, _, _, _, _⟩) (v := ?_) (by kernel_rfl) rfl (by rfl) (fun _ _ _ h => h) (by assumption) ?_ ?_
      rotate_left 1
      · intro w hSw
        try dsimp only at hSw
        go_simp
        try with_reducible rfl
      (try simp only [Act.put, List.setIfInBounds_toArray, List.set_cons_zero, List.set_cons_succ])
      refine take_met 8 (oi := ⟨_, _, _, _, _, _⟩) (v := ?_) (by kernel_rfl) rfl (by rfl) (fun _ _ _ h => h) (by assumption) ?_ ?_
      rotate_left 1
      · intro w hSw
        try dsimp only at hSw
        go_simp
        try with_reducible rfl
      (try simp only [Act.put, List.setIfInBounds_toArray, List.set_cons_zero, List.set_cons_succ])
      refine take_met 9 (oi := ⟨_, _, _, _, _, _⟩) (v := ?_) (by kernel_rfl) rfl (by rfl) (fun _ _ _ h => h) (by assumption) ?_ ?_
      rotate_left 1
      · intro w hSw
        try dsimp only at hSw
        go_simp
        try with_reducible rfl
      (try simp only [Act.put, List.setIfInBounds_toArray, List.set_cons_zero, List.set_cons_succ])
      refine take_met 10 (oi := ⟨_, _, _, _, _, _⟩) (v := ?_) (by kernel_rfl) rfl (by rfl) (fun _ _ _ h => h) (by assumption) ?_ ?_
      rotate_left 1
      · intro w hSw
        try dsimp only at hSw
        go_simp
        try with_reducible rfl
      (try simp only [Act.put, List.setIfInBounds_toArray, List.set_cons_zero, List.set_cons_succ])
      refine take_met 11 (oi := ⟨_, _, _, _, _, _⟩) (v := ?_) (by kernel_rfl) rfl (by rfl) (fun _ _ _ h => h) (by assumption) ?_ ?_
      rotate_left 1
      · intro w hSw
        try dsimp only at hSw
        go_simp
        try with_reducible rfl
      (try simp only [Act.put, List.setIfInBounds_toArray, List.set_cons_zero, List.set_cons_succ])
      refine take_only 12 (oi := ⟨_, _, _, _, _, _⟩) (by kernel_rfl) rfl (fun K hK => ?_)
      go_simp
      have hOld := hHeld
      clear hHeld
      refine hK.out _ _ (⟨by simp [go_sem, hbl, c0], by simp [go_sem, hbl, c1]⟩) (fun hHeld => ?_)
      clear hOld hK K
      (try simp only [Act.put, List.setIfInBounds_toArray, List.set_cons_zero, List.set_cons_succ])
      refine take_only 13 (oi := ⟨_, _, _, _, _, _⟩) (by kernel_rfl) rfl (fun K hK => ?_)
      rw [if_pos (by rfl)]
      first
        | (refine ws_append_op _ _ rfl w (by (show Ext _ _; repeat (first | with_reducible exact Ext.refl _ | with_reducible refine Ext.ext ?_ _ | with_reducible refine Ext.alloc ?_ _ | refine Ext.drew ?_ | refine Ext.drewN ?_ _ | exact Ext.refl _))) (Nat.le_refl _) (by (first | exact Nat.le_refl _ | (simp only [World.size_alloc, World.size_setCell, World.size_drew, size_ext]; omega))) rfl ((HO.out.drew).alloc _) _ 1 1 rfl [clr (x1, x2, x3)] rfl (news_new rfl _ (by (first | rfl | (simp only [World.size_alloc, World.size_setCell, World.size_drew, size_ext])))) (by have := HLn.out; simp; omega) ?_; rintro v' r' hv')
      have hOld := hHeld
      clear hHeld
      refine hK.out _ _ (⟨by simp [go_sem, hbl, c0], by simp [go_sem, hbl, c1]⟩) (fun hHeld => ?_)
      clear hOld hK K
      (try simp only [Act.put, List.setIfInBounds_toArray, List.set_cons_zero, List.set_cons_succ])
      refine take_met 14 (oi := ⟨_, _, _, _, _, _⟩) (v := ?_) (by kernel_rfl) rfl (by rfl) (fun _ _ _ h => h) (by assumption) ?_ ?_
      rotate_left 1
      · intro w hSw
        try dsimp only at hSw
        go_simp
        try with_reducible rfl
      (try simp only [Act.put, List.setIfInBounds_toArray, List.set_cons_zero, List.set_cons_succ])
      refine wpAnyH_done (by kernel_rfl) ?_ _
      go_wp2_with fail
      go_roundw
      case rel => exact ⟨j + 1, by omega, by go_num, by rw [HA.out]; exact hv', by (show Ext _ _; repeat (first | with_reducible exact Ext.refl _ | with_reducible refine Ext.ext ?_ _ | with_reducible refine Ext.alloc ?_ _ | refine Ext.drew ?_ | refine Ext.drewN ?_ _ | exact Ext.refl _))⟩
      case measure => simp [intOf]; omega
    · have hd : decide (j < l.length) = false := decide_eq_false hjl
      have HE := hid (show newL (l.take j) = newL l by rw [List.take_of_length_le (by omega)])
      rw [HE.out] at hown
      clear HE
      go_wp2_with fail
      go_ret
      exact ⟨_, rfl, by (show Ext _ _; repeat (first | with_reducible exact Ext.refl _ | with_reducible refine Ext.ext ?_ _ | with_reducible refine Ext.alloc ?_ _ | refine Ext.drew ?_ | refine Ext.drewN ?_ _ | exact Ext.refl _)), hown⟩

/-- Plain: all words are free. -/
def Free (l : List Wd) : Prop := ∀ x ∈ l, x.2.2 = 0
theorem free_new (l : List Wd) : Free (newL l) := by
  intro x hx
  unfold newL at hx
  obtain ⟨y, _, rfl⟩ := List.mem_map.1 hx
  rfl
theorem met_in {l : List Wd} (hf : Free l) {k : Nat} {x1 x2 x3 : Int} (h : l[k]? = some (x1, x2, x3)) (val ver ref new : Int) (wr : Bool) : met l ⟨k, val, ver, ref, new, wr⟩ = (decide (x1 = val) && decide (x2 = ver)) := by
  have h3 : x3 = 0 := hf (x1, x2, x3) (List.mem_of_getElem? h)
  subst h3
  unfold met
  rw [atW_get h]
  simp only [wdB, Bool.true_and, Prod.mk.injEq, and_true]
  rw [← Bool.decide_and]
theorem met_out {l : List Wd} {e : En} (h : (atW l e.loc).2 = false) : met l e = false := by unfold met; rw [h]; rfl
theorem atW_neg {l : List Wd} {x : Int} (h : x < 0) : (atW l x).2 = false := by rw [atW_snd]; exact decide_eq_false (by omega)
theorem atW_big {l : List Wd} {k : Nat} (h : ¬ k < l.length) : (atW l (k : Int)).2 = false := by rw [atW_snd]; exact decide_eq_false (by omega)
theorem atW_yes {l : List Wd} {k : Nat} (h : k < l.length) : (atW l (k : Int)).2 = true := by rw [atW_snd]; exact decide_eq_true (by omega)

set_option maxHeartbeats 2000000 in
theorem rhas_any (l : List Wd) (es : List En) (v ve : Value) (w : World) (hv : Wsl w v l) (he : Es w ve es) :
    Calls Try.prog 16 #[v, ve] w fun y w' => y = .returned (.bool (hasB l es)) ∧ ∃ r, w' = ext w r := by
  have HE := hid he
  obtain ⟨a1, c1, rfl, ⟨hm1, hlc1⟩, _⟩ := hv
  obtain ⟨a, c, rfl, ⟨hm, hlc⟩, _⟩ := he
  have H0 := hid (show hasB l es = hasB l (es.drop 0) from rfl)
  go_enter Try.func16, Try.ntmps16
  go_wp2_with fail
  go_loopw [5] (fun i wr => ∃ j : Nat, j ≤ es.length ∧ i = .int .i64 j ∧ Hid (hasB l es = hasB l (es.drop j)) ∧ ∃ r, wr = ext w r) (fun i _ => es.length - (intOf i).toNat)
  case atStart => exact ⟨0, by omega, rfl, H0, by (show Ext _ _; repeat (first | with_reducible exact Ext.refl _ | with_reducible refine Ext.ext ?_ _ | with_reducible refine Ext.alloc ?_ _ | refine Ext.drew ?_ | refine Ext.drewN ?_ _ | exact Ext.refl _))⟩
  case round =>
    clear H0
    obtain ⟨j, hj, rfl, H0, r, rfl⟩ := hrel
    by_cases hjl : j < es.length
    · have hd : decide (j < es.length) = true := decide_eq_true hjl
      obtain ⟨hnl, b, o, hab, hbl, hcs⟩ := Sl.at HE.out (List.getElem?_eq_getElem hjl)
      have HX := hid (List.getElem?_eq_getElem hjl)
      generalize es[j] = e at hcs HX
      have HA := hid (hasB_at (l := l) HX.out)
      subst hab
      have k0 := hcs 0 (by omega)
      simp [enE] at k0
      clear hcs hnl
      by_cases hneg : e.loc < 0
      · have HN := hid (show hasB l es = false by rw [H0.out, HA.out, atW_neg hneg]; rfl)
        clear H0 HA
        go_wp2_with fail
        go_ret
        exact ⟨ret_bool HN.out.symm, by (show Ext _ _; repeat (first | with_reducible exact Ext.refl _ | with_reducible refine Ext.ext ?_ _ | with_reducible refine Ext.alloc ?_ _ | refine Ext.drew ?_ | refine Ext.drewN ?_ _ | exact Ext.refl _))⟩
      · obtain ⟨k, hk⟩ : ∃ k : Nat, e.loc = (k : Int) := ⟨e.loc.toNat, by omega⟩
        rw [hk] at k0
        rw [hk] at HA
        clear hneg hk
        by_cases hkl : k < l.length
        · have hg : decide (l.length ≤ k) = false := decide_eq_false (by omega)
          have HN := hid (show hasB l es = hasB l (es.drop (j + 1)) by rw [H0.out, HA.out, atW_yes hkl]; rfl)
          clear H0 HA hkl
          go_wp2_with fail
          go_roundw
          case rel => exact ⟨j + 1, by omega, by go_num, HN, by (show Ext _ _; repeat (first | with_reducible exact Ext.refl _ | with_reducible refine Ext.ext ?_ _ | with_reducible refine Ext.alloc ?_ _ | refine Ext.drew ?_ | refine Ext.drewN ?_ _ | exact Ext.refl _))⟩
          case measure => simp [intOf]; omega
        · have hg : decide (l.length ≤ k) = true := decide_eq_true (by omega)
          have HN := hid (show hasB l es = false by rw [H0.out, HA.out, atW_big hkl]; rfl)
          clear H0 HA hkl
          go_wp2_with fail
          go_ret
          exact ⟨ret_bool HN.out.symm, by (show Ext _ _; repeat (first | with_reducible exact Ext.refl _ | with_reducible refine Ext.ext ?_ _ | with_reducible refine Ext.alloc ?_ _ | refine Ext.drew ?_ | refine Ext.drewN ?_ _ | exact Ext.refl _))⟩
    · have hd : decide (j < es.length) = false := decide_eq_false hjl
      have HN := hid (show hasB l es = true by rw [H0.out, List.drop_eq_nil_of_le (by omega)]; rfl)
      clear H0
      go_wp2_with fail
      go_ret
      exact ⟨ret_bool HN.out.symm, by (show Ext _ _; repeat (first | with_reducible exact Ext.refl _ | with_reducible refine Ext.ext ?_ _ | with_reducible refine Ext.alloc ?_ _ | refine Ext.drew ?_ | refine Ext.drewN ?_ _ | exact Ext.refl _))⟩

set_option maxRecDepth 100000 in
set_option maxHeartbeats 2000000 in
theorem rholds_any (l : List Wd) (hfr : Free l) (es : List En) (v ve : Value) (w : World) (hv : Wsl w v l) (he : Es w ve es) :
    Calls Try.prog 14 #[v, ve] w fun y w' => y = .returned (.bool (holdsB l es)) ∧ ∃ r, w' = ext w r := by
  have HV := hid hv
  have HE := hid he
  have HFR := hid hfr
  obtain ⟨a1, c1, rfl, ⟨hm1, hlc1⟩, _⟩ := hv
  obtain ⟨a, c, rfl, ⟨hm, hlc⟩, _⟩ := he
  have H0 := hid (show holdsB l es = holdsB l (es.drop 0) from rfl)
  clear hfr
  go_enter Try.func14, Try.ntmps14
  go_wp2_with fail
  go_loopw [5] (fun i wr => ∃ j : Nat, j ≤ es.length ∧ i = .int .i64 j ∧ Hid (holdsB l es = holdsB l (es.drop j)) ∧ ∃ r, wr = ext w r) (fun i _ => es.length - (intOf i).toNat)
  case atStart => exact ⟨0, by omega, rfl, H0, by (show Ext _ _; repeat (first | with_reducible exact Ext.refl _ | with_reducible refine Ext.ext ?_ _ | with_reducible refine Ext.alloc ?_ _ | refine Ext.drew ?_ | refine Ext.drewN ?_ _ | exact Ext.refl _))⟩
  case round =>
    clear H0
    obtain ⟨j, hj, rfl, H0, r, rfl⟩ := hrel
    by_cases hjl : j < es.length
    · have hd : decide (j < es.length) = true := decide_eq_true hjl
      obtain ⟨hnl, b, o, hab, hbl, hcs⟩ := Sl.at HE.out (List.getElem?_eq_getElem hjl)
      have HX := hid (List.getElem?_eq_getElem hjl)
      generalize es[j] = e at hcs HX
      have HA := hid (holdsB_at (l := l) HX.out)
      subst hab
      obtain ⟨loc, val, ver, ref, new, wr⟩ := e
      have k0 := hcs 0 (by omega)
      have k1 := hcs 1 (by omega)
      have k2 := hcs 2 (by omega)
      simp [enE] at k0 k1 k2
      clear hcs hnl
      by_cases hneg : loc < 0
      · have HN := hid (show holdsB l es = false by rw [H0.out, HA.out, met_out (atW_neg hneg)]; rfl)
        clear H0 HA
        go_wp2_with fail
        refine region_ext (by kernel_rfl) (by kernel_rfl) ?_
        repeat (go_big_quiet_step (fail))
        refine wpQuiet_nil ?_
        rintro _ ⟨r4, rfl⟩
        go_wp2_with fail
        go_ret
        exact ⟨ret_bool HN.out.symm, by (show Ext _ _; repeat (first | with_reducible exact Ext.refl _ | with_reducible refine Ext.ext ?_ _ | with_reducible refine Ext.alloc ?_ _ | refine Ext.drew ?_ | refine Ext.drewN ?_ _ | exact Ext.refl _))⟩
      · obtain ⟨k, hk⟩ : ∃ k : Nat, loc = (k : Int) := ⟨loc.toNat, by omega⟩
        subst hk
        clear hneg
        have hn0 : decide ((k : Int) < 0) = false := decide_eq_false (by omega)
        by_cases hkl : k < l.length
        · have hg : decide (l.length ≤ k) = false := decide_eq_false (by omega)
          have hdk : decide (k < l.length) = true := decide_eq_true hkl
          obtain ⟨hq1, b1, o1, hab1, hbl1, hcs1⟩ := Sl.at HV.out (List.getElem?_eq_getElem hkl)
          have HY := hid (List.getElem?_eq_getElem hkl)
          generalize l[k] = x at hcs1 HY
          obtain ⟨x1, x2, x3⟩ := x
          subst hab1
          have d0 := hcs1 0 (by omega)
          have d1 := hcs1 1 (by omega)
          simp [wdE] at d0 d1
          clear hcs1 hq1
          have HM := hid (met_in HFR.out HY.out val ver ref new wr)
          have hOne : ∀ (x1 val x2 ver : Int), (x1 = val ∧ x2 = ver) ∨ x1 ≠ val ∨ (x1 = val ∧ x2 ≠ ver) := by intro x1 val x2 ver; omega
          rcases hOne x1 val x2 ver with ⟨e1, e2⟩ | e1 | ⟨e1, e2⟩
          · subst e1 e2
            have HN := hid (show holdsB l es = holdsB l (es.drop (j + 1)) by rw [H0.out, HA.out, HM.out]; simp)
            have q1 : (x1 != x1) = false := by simp
            have q2 : (x2 != x2) = false := by simp
            clear H0 HA HM hOne
            go_wp2_with fail
            refine region_ext (by kernel_rfl) (by kernel_rfl) ?_
            repeat (go_big_quiet_step (fail))
            refine wpQuiet_nil ?_
            rintro _ ⟨r4, rfl⟩
            go_wp2_with fail
            go_roundw
            case rel => exact ⟨j + 1, by omega, by go_num, HN, by (show Ext _ _; repeat (first | with_reducible exact Ext.refl _ | with_reducible refine Ext.ext ?_ _ | with_reducible refine Ext.alloc ?_ _ | refine Ext.drew ?_ | refine Ext.drewN ?_ _ | exact Ext.refl _))⟩
            case measure => simp [intOf]; omega
          · have HN := hid (show holdsB l es = false by rw [H0.out, HA.out, HM.out]; simp [e1])
            have q1 : (x1 != val) = true := by simp [e1]
            clear H0 HA HM hOne e1
            go_wp2_with fail
            refine region_ext (by kernel_rfl) (by kernel_rfl) ?_
            repeat (go_big_quiet_step (fail))
            refine wpQuiet_nil ?_
            rintro _ ⟨r4, rfl⟩
            go_wp2_with fail
            go_ret
            exact ⟨ret_bool HN.out.symm, by (show Ext _ _; repeat (first | with_reducible exact Ext.refl _ | with_reducible refine Ext.ext ?_ _ | with_reducible refine Ext.alloc ?_ _ | refine Ext.drew ?_ | refine Ext.drewN ?_ _ | exact Ext.refl _))⟩
          · subst e1
            have HN := hid (show holdsB l es = false by rw [H0.out, HA.out, HM.out]; simp [e2])
            have q1 : (x1 != x1) = false := by simp
            have q2 : (x2 != ver) = true := by simp [e2]
            clear H0 HA HM hOne e2
            go_wp2_with fail
            refine region_ext (by kernel_rfl) (by kernel_rfl) ?_
            repeat (go_big_quiet_step (fail))
            refine wpQuiet_nil ?_
            rintro _ ⟨r4, rfl⟩
            go_wp2_with fail
            go_ret
            exact ⟨ret_bool HN.out.symm, by (show Ext _ _; repeat (first | with_reducible exact Ext.refl _ | with_reducible refine Ext.ext ?_ _ | with_reducible refine Ext.alloc ?_ _ | refine Ext.drew ?_ | refine Ext.drewN ?_ _ | exact Ext.refl _))⟩
        · have hg : decide (l.length ≤ k) = true := decide_eq_true (by omega)
          have HN := hid (show holdsB l es = false by rw [H0.out, HA.out, met_out (atW_big hkl)]; rfl)
          clear H0 HA hkl
          go_wp2_with fail
          refine region_ext (by kernel_rfl) (by kernel_rfl) ?_
          repeat (go_big_quiet_step (fail))
          refine wpQuiet_nil ?_
          rintro _ ⟨r4, rfl⟩
          go_wp2_with fail
          go_ret
          exact ⟨ret_bool HN.out.symm, by (show Ext _ _; repeat (first | with_reducible exact Ext.refl _ | with_reducible refine Ext.ext ?_ _ | with_reducible refine Ext.alloc ?_ _ | refine Ext.drew ?_ | refine Ext.drewN ?_ _ | exact Ext.refl _))⟩
    · have hd : decide (j < es.length) = false := decide_eq_false hjl
      have HN := hid (show holdsB l es = true by rw [H0.out, List.drop_eq_nil_of_le (by omega)]; rfl)
      clear H0
      go_wp2_with fail
      go_ret
      exact ⟨ret_bool HN.out.symm, by (show Ext _ _; repeat (first | with_reducible exact Ext.refl _ | with_reducible refine Ext.ext ?_ _ | with_reducible refine Ext.alloc ?_ _ | refine Ext.drew ?_ | refine Ext.drewN ?_ _ | exact Ext.refl _))⟩

theorem holds_has {l : List Wd} {es : List En} (h : holdsB l es = true) : hasB l es = true := by
  refine List.all_eq_true.2 fun e he => ?_
  have := List.all_eq_true.1 h e he
  unfold met at this
  simp only [Bool.and_eq_true] at this
  exact this.1

set_option maxRecDepth 100000 in
set_option maxHeartbeats 2000000 in
theorem rswap_any (l : List Wd) (hfr : Free l) (es : List En) (v ve : Value) (w : World) (hl : l.length ≤ 1000) (hne : es ≠ []) (hv : Wsl w v l) (he : Es w ve es) :
    Calls Try.prog 17 #[v, ve] w fun y w' => ∃ v', y = .returned (.tuple #[v', .bool (holdsB l es)]) ∧ (∃ r, w' = ext w r) ∧ Wsl w' v' (if holdsB l es = true then setL l es else l) ∧ (v' = v ∨ Ws w' w.heap.size v' (if holdsB l es = true then setL l es else l)) := by
  have HV := hid hv
  have HE := hid he
  have HFR := hid hfr
  obtain ⟨a1, c1, rfl, ⟨hm1, hlc1⟩, _⟩ := hv
  obtain ⟨a, c, rfl, ⟨hm, hlc⟩, _⟩ := he
  clear hfr
  cases hh : holdsB l es
  · have HH := hid hh
    clear hh hne
    go_enter Try.func17, Try.ntmps17
    go_wp2_with fail
    go_call (rholds_any l HFR.out es _ _ _ (HV.out.of wdE_len (by (show Ext _ _; repeat (first | with_reducible exact Ext.refl _ | with_reducible refine Ext.ext ?_ _ | with_reducible refine Ext.alloc ?_ _ | refine Ext.drew ?_ | refine Ext.drewN ?_ _ | exact Ext.refl _)))) (HE.out.of enE_len (by (show Ext _ _; repeat (first | with_reducible exact Ext.refl _ | with_reducible refine Ext.ext ?_ _ | with_reducible refine Ext.alloc ?_ _ | refine Ext.drew ?_ | refine Ext.drewN ?_ _ | exact Ext.refl _))))) as y w' ⟨rfl, r2, rfl⟩
    rw [HH.out]
    go_wp2_with fail
    go_ret2
    exact ⟨_, rfl, by (show Ext _ _; repeat (first | with_reducible exact Ext.refl _ | with_reducible refine Ext.ext ?_ _ | with_reducible refine Ext.alloc ?_ _ | refine Ext.drew ?_ | refine Ext.drewN ?_ _ | exact Ext.refl _)), HV.out.of wdE_len (by (show Ext _ _; repeat (first | with_reducible exact Ext.refl _ | with_reducible refine Ext.ext ?_ _ | with_reducible refine Ext.alloc ?_ _ | refine Ext.drew ?_ | refine Ext.drewN ?_ _ | exact Ext.refl _))), .inl rfl⟩
  · have HN := hid (holds_has hh)
    have HH := hid hh
    have hl0 : l ≠ [] := by
      intro h0
      obtain ⟨e, es', rfl⟩ := List.exists_cons_of_ne_nil hne
      obtain ⟨k, _, hk⟩ := hasB_in HN.out (List.mem_cons_self ..)
      rw [h0] at hk; simp at hk
    obtain ⟨a1', c1', hv', _, hr⟩ := HV.out
    simp only [Value.slice.injEq] at hv'
    obtain ⟨rfl, -, rfl⟩ := hv'
    obtain ⟨b1, o1, rfl, hbl1, hcs1⟩ := hr hl0
    have HFl := hid (Sl.flat wdE_len (by omega) HV.out)
    clear hh hne hl0 hr hcs1
    go_enter Try.func17, Try.ntmps17
    go_wp2_with fail
    go_call (rholds_any l HFR.out es _ _ _ (HV.out.of wdE_len (by (show Ext _ _; repeat (first | with_reducible exact Ext.refl _ | with_reducible refine Ext.ext ?_ _ | with_reducible refine Ext.alloc ?_ _ | refine Ext.drew ?_ | refine Ext.drewN ?_ _ | exact Ext.refl _)))) (HE.out.of enE_len (by (show Ext _ _; repeat (first | with_reducible exact Ext.refl _ | with_reducible refine Ext.ext ?_ _ | with_reducible refine Ext.alloc ?_ _ | refine Ext.drew ?_ | refine Ext.drewN ?_ _ | exact Ext.refl _))))) as y w' ⟨rfl, r2, rfl⟩
    rw [HH.out]
    go_wp2_with (at_builtin; refine ws_append rfl _ _ rfl w (by (show Ext _ _; repeat (first | with_reducible exact Ext.refl _ | with_reducible refine Ext.ext ?_ _ | with_reducible refine Ext.alloc ?_ _ | refine Ext.drew ?_ | refine Ext.drewN ?_ _ | exact Ext.refl _))) (Nat.le_refl _) (by (first | exact Nat.le_refl _ | (simp only [World.size_alloc, World.size_setCell, World.size_drew, size_ext]; omega))) rfl Own.nil ⟨b1, o1, none⟩ l.length c1 rfl l rfl (fun j u hu => Ext.cell (by (show Ext _ _; repeat (first | with_reducible exact Ext.refl _ | with_reducible refine Ext.ext ?_ _ | with_reducible refine Ext.alloc ?_ _ | refine Ext.drew ?_ | refine Ext.drewN ?_ _ | exact Ext.refl _))) (HFl.out j u hu)) (by simp; omega) ?_; rintro v' r' hv')
    rw [List.nil_append] at hv'
    obtain ⟨a2, c2, hsh⟩ := Own.shape hv'
    subst hsh
    have HO1 := hid hv'
    clear hv'
    go_loopw [7] (fun i wr => ∃ j : Nat, j ≤ es.length ∧ i = .int .i64 j ∧ Ws wr w.heap.size (.slice a2 l.length c2) (setL l (es.take j)) ∧ ∃ r, wr = ext w r) (fun i _ => es.length - (intOf i).toNat)
    case atStart => exact ⟨0, by omega, rfl, (show Ws _ _ _ (setL l (es.take 0)) from HO1.out), by (show Ext _ _; repeat (first | with_reducible exact Ext.refl _ | with_reducible refine Ext.ext ?_ _ | with_reducible refine Ext.alloc ?_ _ | refine Ext.drew ?_ | refine Ext.drewN ?_ _ | exact Ext.refl _))⟩
    case round =>
      clear HO1
      obtain ⟨j, hj, rfl, hown, r, rfl⟩ := hrel
      by_cases hjl : j < es.length
      · have hd : decide (j < es.length) = true := decide_eq_true hjl
        obtain ⟨hnl, b, o, hab, hbl, hcs⟩ := Sl.at HE.out (List.getElem?_eq_getElem hjl)
        have HX := hid (List.getElem?_eq_getElem hjl)
        have hin := hasB_in HN.out (List.getElem_mem hjl)
        generalize es[j] = e at hcs HX hin
        have HA := hid (setL_at (l := l) HX.out)
        subst hab
        obtain ⟨loc, val, ver, ref, new, wr⟩ := e
        obtain ⟨k, hk, hkl⟩ := hin
        dsimp only at hk
        subst hk
        have k0 := hcs 0 (by omega)
        have k2 := hcs 2 (by omega)
        have k4 := hcs 4 (by omega)
        have k5 := hcs 5 (by omega)
        simp [enE] at k0 k2 k4 k5
        clear hcs hnl
        cases wr
        · have HO2 := hid hown
          clear hown
          go_wp2_with fail
          go_roundw
          case rel => exact ⟨j + 1, by omega, by go_num, by rw [HA.out]; exact HO2.out, by (show Ext _ _; repeat (first | with_reducible exact Ext.refl _ | with_reducible refine Ext.ext ?_ _ | with_reducible refine Ext.alloc ?_ _ | refine Ext.drew ?_ | refine Ext.drewN ?_ _ | exact Ext.refl _))⟩
          case measure => simp [intOf]; omega
        · have hkd : decide (k < l.length) = true := decide_eq_true hkl
          have hkx : k < (setL l (es.take j)).length := by rw [setL_len]; exact hkl
          obtain ⟨g, c', hg, hgl, hds⟩ := Own.cellsAt wdE_len hown (List.getElem?_eq_getElem hkx)
          simp only [Value.slice.injEq] at hg
          obtain ⟨rfl, -, -⟩ := hg
          have hgb : w.heap.size ≤ g := (World.ownsRow.lt hown g rfl).1
          have HXX := hid (List.getElem?_eq_getElem hkx)
          generalize (setL l (es.take j))[k] = x at hds HXX
          have d0 := hds 0 (by omega)
          have d1 := hds 1 (by omega)
          have d2 := hds 2 (by omega)
          simp [wdE] at d0 d1 d2
          have f0 := Ws.free hown (k * 3)
          have f1 := Ws.free hown (k * 3 + 1)
          have f2 := Ws.free hown (k * 3 + 2)
          have HO2 := hid hown
          clear hds hown hkx
          go_wp2_with fail
          refine wp_region_held_drew (S := fun w' => w'.cell? ⟨b, o + j * 6, none⟩ = some (.int .i64 (k : Int)) ∧ w'.cell? ⟨b, o + j * 6 + 2, none⟩ = some (.int .u32 ver) ∧ w'.cell? ⟨b, o + j * 6 + 4, none⟩ = some (.int .i64 new)) (by kernel_rfl) (⟨(cell_far (W := w) (by (show Ext _ _; repeat (first | with_reducible exact Ext.refl _ | with_reducible refine Ext.ext ?_ _ | with_reducible refine Ext.alloc ?_ _ | refine Ext.drew ?_ | refine Ext.drewN ?_ _ | refine Ext.setCell ?_ (by (try dsimp only); (try simp only [World.size_alloc, World.size_setCell, World.size_drew, size_ext]); omega) _))) hbl).trans k0, (cell_far (W := w) (by (show Ext _ _; repeat (first | with_reducible exact Ext.refl _ | with_reducible refine Ext.ext ?_ _ | with_reducible refine Ext.alloc ?_ _ | refine Ext.drew ?_ | refine Ext.drewN ?_ _ | refine Ext.setCell ?_ (by (try dsimp only); (try simp only [World.size_alloc, World.size_setCell, World.size_drew, size_ext]); omega) _))) hbl).trans k2, (cell_far (W := w) (by (show Ext _ _; repeat (first | with_reducible exact Ext.refl _ | with_reducible refine Ext.ext ?_ _ | with_reducible refine Ext.alloc ?_ _ | refine Ext.drew ?_ | refine Ext.drewN ?_ _ | refine Ext.setCell ?_ (by (try dsimp only); (try simp only [World.size_alloc, World.size_setCell, World.size_drew, size_ext]); omega) _))) hbl).trans k4⟩) (fun hHeld => ?_)
          refine take_met 0 (oi := ⟨_, _, _, _, _, _⟩) (v := ?_) (by kernel_rfl) rfl (by rfl) (fun _ _ _ h => h) (by assumption) ?_ ?_
          rotate_left 1
          · intro w hSw
            try dsimp only at hSw
            go_simp
            try with_reducible rfl
          (try simp only [Act.put, List.setIfInBounds_toArray, List.set_cons_zero, List.set_cons_succ])
          refine take_met 1 (oi := ⟨_, _, _, _, _, _⟩) (v := ?_) (by kernel_rfl) rfl (by rfl) (fun _ _ _ h => h) (by assumption) ?_ ?_
          rotate_left 1
          · intro w hSw
            try dsimp only at hSw
            go_simp
            try with_reducible rfl
          (try simp only [Act.put, List.setIfInBounds_toArray, List.set_cons_zero, List.set_cons_succ])
          refine take_met 2 (oi := ⟨_, _, _, _, _, _⟩) (v := ?_) (by kernel_rfl) rfl (by rfl) (fun _ _ _ h => h) (by assumption) ?_ ?_
          rotate_left 1
          · intro w hSw
            try dsimp only at hSw
            go_simp
            try with_reducible rfl
          (try simp only [Act.put, List.setIfInBounds_toArray, List.set_cons_zero, List.set_cons_succ])
          refine take_met 3 (oi := ⟨_, _, _, _, _, _⟩) (v := ?_) (by kernel_rfl) rfl (by rfl) (fun _ _ _ h => h) (by assumption) ?_ ?_
          rotate_left 1
          · intro w hSw
            try dsimp only at hSw
            go_simp
            try with_reducible rfl
          (try simp only [Act.put, List.setIfInBounds_toArray, List.set_cons_zero, List.set_cons_succ])
          refine take_met 4 (oi := ⟨_, _, _, _, _, _⟩) (v := ?_) (by kernel_rfl) rfl (by rfl) (fun _ _ _ h => h) (by assumption) ?_ ?_
          rotate_left 1
          · intro w hSw
            try dsimp only at hSw
            go_simp
            try with_reducible rfl
          (try simp only [Act.put, List.setIfInBounds_toArray, List.set_cons_zero, List.set_cons_succ])
          refine take_met 5 (oi := ⟨_, _, _, _, _, _⟩) (v := ?_) (by kernel_rfl) rfl (by rfl) (fun _ _ _ h => h) (by assumption) ?_ ?_
          rotate_left 1
          · intro w hSw
            try dsimp only at hSw
            go_simp
            try with_reducible rfl
          (try simp only [Act.put, List.setIfInBounds_toArray, List.set_cons_zero, List.set_cons_succ])
          refine take_met 6 (oi := ⟨_, _, _, _, _, _⟩) (v := ?_) (by kernel_rfl) rfl (by rfl) (fun _ _ _ h => h) (by assumption) ?_ ?_
          rotate_left 1
          · intro w hSw
            try dsimp only at hSw
            go_simp
            try with_reducible rfl
          (try simp only [Act.put, List.setIfInBounds_toArray, List.set_cons_zero, List.set_cons_succ])
          refine take_met 7 (oi := ⟨_, _, _, _, _, _⟩) (v := ?_) (by kernel_rfl) rfl (by rfl) (fun _ _ _ h => h) (by assumption) ?_ ?_
          rotate_left 1
          · intro w hSw
            try dsimp only at hSw
            go_simp
            try with_reducible rfl
          (try simp only [Act.put, List.setIfInBounds_toArray, List.set_cons_zero, List.set_cons_succ])
          refine take_met 8 (oi := ⟨_, _, _, _, _, _⟩) (v := ?_) (by kernel_rfl) rfl (by rfl) (fun _ _ _ h => h) (by assumption) ?_ ?_
          rotate_left 1
          · intro w hSw
            try dsimp only at hSw
            go_simp
            try with_reducible rfl
          (try simp only [Act.put, List.setIfInBounds_toArray, List.set_cons_zero, List.set_cons_succ])
          refine take_met 9 (oi := ⟨_, _, _, _, _, _⟩) (v := ?_) (by kernel_rfl) rfl (by rfl) (fun _ _ _ h => h) (by assumption) ?_ ?_
          rotate_left 1
          · intro w hSw
            try dsimp only at hSw
            go_simp
            try with_reducible rfl
          (try simp only [Act.put, List.setIfInBounds_toArray, List.set_cons_zero, List.set_cons_succ])
          refine take_met 10 (oi := ⟨_, _, _, _, _, _⟩) (v := ?_) (by kernel_rfl) rfl (by rfl) (fun _ _ _ h => h) (by assumption) ?_ ?_
          rotate_left 1
          · intro w hSw
            try dsimp only at hSw
            go_simp
            try with_reducible rfl
          (try simp only [Act.put, List.setIfInBounds_toArray, List.set_cons_zero, List.set_cons_succ])
          refine take_met 11 (oi := ⟨_, _, _, _, _, _⟩) (v := ?_) (by kernel_rfl) rfl (by rfl) (fun _ _ _ h => h) (by assumption) ?_ ?_
          rotate_left 1
          · intro w hSw
            try dsimp only at hSw
            go_simp
            try with_reducible rfl
          (try simp only [Act.put, List.setIfInBounds_toArray, List.set_cons_zero, List.set_cons_succ])
          refine take_met 12 (oi := ⟨_, _, _, _, _, _⟩) (v := ?_) (by kernel_rfl) rfl (by rfl) (fun _ _ _ h => h) (by assumption) ?_ ?_
          rotate_left 1
          · intro w hSw
            try dsimp only at hSw
            go_simp
            try with_reducible rfl
          (try simp only [Act.put, List.setIfInBounds_toArray, List.set_cons_zero, List.set_cons_succ])
          refine take_met 13 (oi := ⟨_, _, _, _, _, _⟩) (v := ?_) (by kernel_rfl) rfl (by rfl) (fun _ _ _ h => h) (by assumption) ?_ ?_
          rotate_left 1
          · intro w hSw
            try dsimp only at hSw
            go_simp
            try with_reducible rfl
          (try simp only [Act.put, List.setIfInBounds_toArray, List.set_cons_zero, List.set_cons_succ])
          refine take_met 14 (oi := ⟨_, _, _, _, _, _⟩) (v := ?_) (by kernel_rfl) rfl (by rfl) (fun _ _ _ h => h) (by assumption) ?_ ?_
          rotate_left 1
          · intro w hSw
            try dsimp only at hSw
            go_simp
            try with_reducible rfl
          (try simp only [Act.put, List.setIfInBounds_toArray, List.set_cons_zero, List.set_cons_succ])
          refine take_met 15 (oi := ⟨_, _, _, _, _, _⟩) (v := ?_) (by kernel_rfl) rfl (by rfl) (fun _ _ _ h => h) (by assumption) ?_ ?_
          rotate_left 1
          · intro w hSw
            try dsimp only at hSw
            go_simp
            try with_reducible rfl
          (try simp only [Act.put, List.setIfInBounds_toArray, List.set_cons_zero, List.set_cons_succ])
          refine take_met 16 (oi := ⟨_, _, _, _, _, _⟩) (v := ?_) (by kernel_rfl) rfl (by rfl) (fun _ _ _ h => h) (by assumption) ?_ ?_
          rotate_left 1
          · intro w hSw
            try dsimp only at hSw
            go_simp
            try with_reducible rfl
          (try simp only [Act.put, List.setIfInBounds_toArray, List.set_cons_zero, List.set_cons_succ])
          refine take_met 17 (oi := ⟨_, _, _, _, _, _⟩) (v := ?_) (by kernel_rfl) rfl (by rfl) (fun _ _ _ h => h) (by assumption) ?_ ?_
          rotate_left 1
          · intro w hSw
            try dsimp only at hSw
            go_simp
            try with_reducible rfl
          (try simp only [Act.put, List.setIfInBounds_toArray, List.set_cons_zero, List.set_cons_succ])
          refine take_met 18 (oi := ⟨_, _, _, _, _, _⟩) (v := ?_) (by kernel_rfl) rfl (by rfl) (fun _ _ _ h => h) (by assumption) ?_ ?_
          rotate_left 1
          · intro w hSw
            try dsimp only at hSw
            go_simp
            try with_reducible rfl
          (try simp only [Act.put, List.setIfInBounds_toArray, List.set_cons_zero, List.set_cons_succ])
          refine take_met 19 (oi := ⟨_, _, _, _, _, _⟩) (v := ?_) (by kernel_rfl) rfl (by rfl) (fun _ _ _ h => h) (by assumption) ?_ ?_
          rotate_left 1
          · intro w hSw
            try dsimp only at hSw
            go_simp
            try with_reducible rfl
          (try simp only [Act.put, List.setIfInBounds_toArray, List.set_cons_zero, List.set_cons_succ])
          refine take_only 20 (oi := ⟨_, _, _, _, _, _⟩) (by kernel_rfl) rfl (fun K hK => ?_)
          go_simp
          have hOld := hHeld
          clear hHeld
          refine hK.out _ _ (⟨(cell_far (W := w) (by (show Ext _ _; repeat (first | with_reducible exact Ext.refl _ | with_reducible refine Ext.ext ?_ _ | with_reducible refine Ext.alloc ?_ _ | refine Ext.drew ?_ | refine Ext.drewN ?_ _ | refine Ext.setCell ?_ (by (try dsimp only); (try simp only [World.size_alloc, World.size_setCell, World.size_drew, size_ext]); omega) _))) hbl).trans k0, (cell_far (W := w) (by (show Ext _ _; repeat (first | with_reducible exact Ext.refl _ | with_reducible refine Ext.ext ?_ _ | with_reducible refine Ext.alloc ?_ _ | refine Ext.drew ?_ | refine Ext.drewN ?_ _ | refine Ext.setCell ?_ (by (try dsimp only); (try simp only [World.size_alloc, World.size_setCell, World.size_drew, size_ext]); omega) _))) hbl).trans k2, (cell_far (W := w) (by (show Ext _ _; repeat (first | with_reducible exact Ext.refl _ | with_reducible refine Ext.ext ?_ _ | with_reducible refine Ext.alloc ?_ _ | refine Ext.drew ?_ | refine Ext.drewN ?_ _ | refine Ext.setCell ?_ (by (try dsimp only); (try simp only [World.size_alloc, World.size_setCell, World.size_drew, size_ext]); omega) _))) hbl).trans k4⟩) (fun hHeld => ?_)
          clear hOld hK K
          (try simp only [Act.put, List.setIfInBounds_toArray, List.set_cons_zero, List.set_cons_succ])
          refine wpAnyH_done (by kernel_rfl) ?_ _
          go_wp2_with fail
          go_roundw
          case rel => exact ⟨j + 1, by omega, by go_num, by rw [HA.out]; exact Own.drew (Ws.set3 HO2.out HXX.out (new, (ver + 1) % 4294967296, 0) rfl rfl rfl), by (show Ext _ _; repeat (first | with_reducible exact Ext.refl _ | with_reducible refine Ext.ext ?_ _ | with_reducible refine Ext.alloc ?_ _ | refine Ext.drew ?_ | refine Ext.drewN ?_ _ | refine Ext.setCell ?_ (by (try dsimp only); (try simp only [World.size_alloc, World.size_setCell, World.size_drew, size_ext]); omega) _))⟩
          case measure => simp [intOf]; omega
      · have hd : decide (j < es.length) = false := decide_eq_false hjl
        obtain rfl : j = es.length := by omega
        rw [List.take_length] at hown
        have HO2 := hid hown
        clear hown
        go_wp2_with fail
        go_ret2
        exact ⟨_, rfl, by (show Ext _ _; repeat (first | with_reducible exact Ext.refl _ | with_reducible refine Ext.ext ?_ _ | with_reducible refine Ext.alloc ?_ _ | refine Ext.drew ?_ | refine Ext.drewN ?_ _ | exact Ext.refl _)), Sl.of_own wdE_len HO2.out, .inr HO2.out⟩

end Go.Proofs.Ytdodipejckigoaa
