/- The walk of the statement ModelOnce. -/
import Derived.Test.YtdodipejckigoaaLawN
import Derived.Test.YtdodipejckigoaaModLaw
import Derived.Test.YtdodipejckigoaaOpen
import Derived.Test.YtdodipejckigoaaHeld
namespace Go.Proofs.Ytdodipejckigoaa
open Go.RowKit

theorem slE_one (x : Option Addr × Nat × Nat) : ∀ u ∈ slE x, u.oneCell' = true := by
  intro u hu
  simp only [slE, List.mem_cons, List.not_mem_nil, or_false] at hu
  subst hu; rfl
/-- A literal slice of slices. -/
theorem lit_rows {w : World} {cs : Array Value} {l : List (Option Addr × Nat × Nat)} (n : Nat) (hn : n = l.length) (hm : n ≤ 1000) (hc : cs.toList = l.flatMap slE) (hs : cs.size = n * 1) {k : Nat} (hk : k = w.heap.size) : Sl (w.alloc (.cells cs 30)) 1 slE (.slice (some ⟨k, 0, none⟩) n n) l := by
  subst hk
  exact Sl.of_own (e := 30) slE_len (Own.made cs l n hn (Nat.le_refl _) (by unfold maxLen; omega) hc hs)
theorem few_le {n : Nat} {vs : List (Option Addr × Nat × Nat)} (h : fewB n vs = true) : n ≤ 20 ∧ vs.length ≤ 20 ∧ ∀ x ∈ vs, x.2.1 ≤ 12 := by
  unfold fewB at h
  simp only [Bool.and_eq_true, decide_eq_true_eq, List.all_eq_true] at h
  exact ⟨h.2.1, h.2.2, h.1⟩

/-- Plain: does an entry write? -/
def anyW (es : List En) : Bool := es.any (fun e => e.wr)
theorem anyW_at {es : List En} {j : Nat} {e : En} (h : es[j]? = some e) : anyW (es.take (j + 1)) = (anyW (es.take j) || e.wr) := by
  obtain ⟨hj, hk⟩ := List.getElem?_eq_some_iff.1 h
  unfold anyW
  rw [List.take_succ_eq_append_getElem hj, List.any_append, hk]
  simp

set_option maxRecDepth 100000 in
set_option maxHeartbeats 4000000 in
theorem lonce_any (w : World) (l : List Wd) (v : Value) (hv : Wsl w v l) (_ : ∀ a ∈ l, WdOk a) (es : List En) (ve : Value) (he : Es w ve es) (hok : ∀ e ∈ es, EnOk e) :
    Calls Try.prog 5 #[v, ve] w fun y w' => y = .returned (.bool true) ∧ ∃ r, w' = ext w r := by
  have HV := hid hv
  have HE := hid he
  have HO := hid hok
  obtain ⟨a, c, rfl, ⟨hm, hlc⟩, _⟩ := hv
  obtain ⟨a2, c2, rfl, ⟨hm2, hlc2⟩, _⟩ := he
  clear hok
  cases hf : fewB l.length [(a2, es.length, c2)]
  · have HF := hid hf
    clear hf
    go_enter Try.func5, Try.ntmps5
    go_wp2_with fail
    go_call (few_any l.length a c [(a2, es.length, c2)] _ _ (lit_rows 1 rfl (by omega) rfl rfl rfl)) as y w' ⟨rfl, r1, rfl⟩
    rw [HF.out]
    go_wp2_with fail
    go_call (awake_any _) as y w' ⟨rfl, r2, rfl⟩
    go_wp2_with fail
    go_ret
    exact ⟨rfl, by (show Ext _ _; repeat (first | with_reducible exact Ext.refl _ | with_reducible refine Ext.ext ?_ _ | with_reducible refine Ext.alloc ?_ _ | refine Ext.drew ?_ | refine Ext.drewN ?_ _ | exact Ext.refl _))⟩
  · have hl20 := (few_le hf).1
    have HF := hid hf
    clear hf
    have HL := hid (show (newL l).length = l.length by simp [newL])
    have hl100 : (newL l).length ≤ 100000 := by rw [HL.out]; omega
    go_enter Try.func5, Try.ntmps5
    go_wp2_with fail
    go_call (few_any l.length a c [(a2, es.length, c2)] _ _ (lit_rows 1 rfl (by omega) rfl rfl rfl)) as y w' ⟨rfl, r1, rfl⟩
    rw [HF.out]
    go_wp2_with fail
    go_call (new_any l _ _ (by omega) (HV.out.of wdE_len (by (show Ext _ _; repeat (first | with_reducible exact Ext.refl _ | with_reducible refine Ext.ext ?_ _ | with_reducible refine Ext.alloc ?_ _ | refine Ext.drew ?_ | refine Ext.drewN ?_ _ | exact Ext.refl _))))) as y w' ⟨v1, rfl, ⟨r2, rfl⟩, hv1⟩
    have HM := hid (Sl.of_own wdE_len hv1)
    clear hv1
    have HW := hid (show Ext w (ext (ext (w.alloc (.cells #[.slice a2 es.length c2] 30)) r1) r2) by (show Ext _ _; repeat (first | with_reducible exact Ext.refl _ | with_reducible refine Ext.ext ?_ _ | with_reducible refine Ext.alloc ?_ _ | refine Ext.drew ?_ | refine Ext.drewN ?_ _ | exact Ext.refl _)))
    generalize ext (ext (w.alloc (.cells #[.slice a2 es.length c2] 30)) r1) r2 = W at *
    have HE1 := hid (HE.out.of enE_len HW.out)
    generalize newL l = m at *
    obtain ⟨a1, c1, rfl, _, _⟩ := HM.out
    go_wp2_with fail
    go_call (swap_any m es _ _ _ (by omega) HO.out (HM.out.of wdE_len (by (show Ext _ _; repeat (first | with_reducible exact Ext.refl _ | with_reducible refine Ext.ext ?_ _ | with_reducible refine Ext.alloc ?_ _ | refine Ext.drew ?_ | refine Ext.drewN ?_ _ | exact Ext.refl _)))) (HE1.out.of enE_len (by (show Ext _ _; repeat (first | with_reducible exact Ext.refl _ | with_reducible refine Ext.ext ?_ _ | with_reducible refine Ext.alloc ?_ _ | refine Ext.drew ?_ | refine Ext.drewN ?_ _ | exact Ext.refl _))))) as y w' ⟨v2, rfl, ⟨r3, rfl⟩, hv2⟩
    rcases swap_cases m es with ⟨q0, q1, q2, q3⟩ | ⟨e, q1, q3⟩ | q3
    · have q4 : swapN (setL m es) es = (setL m es, !anyW es, 0) := swap_twice q0 q1 q2
      rw [q3] at hv2 ⊢
      have HM2 := hid hv2
      have HN := hid (show anyW es = false → setL m es = m from setL_nowr es m)
      obtain ⟨ww, hww⟩ : ∃ ww, ww = anyW es := ⟨_, rfl⟩
      rw [← hww] at HN q4
      have HB := hid hww
      clear hww
      have hn100 : (setL m es).length ≤ 100000 := by rw [setL_len]; exact hl100
      generalize setL m es = n at *
      obtain ⟨a3, c3, rfl, _, _⟩ := hv2
      have HQ := hid q4
      clear q0 q1 q2 q3 q4
      go_wp2_with fail
      go_call (swap_any n es _ _ _ hn100 HO.out (HM2.out.of wdE_len (by (show Ext _ _; repeat (first | with_reducible exact Ext.refl _ | with_reducible refine Ext.ext ?_ _ | with_reducible refine Ext.alloc ?_ _ | refine Ext.drew ?_ | refine Ext.drewN ?_ _ | exact Ext.refl _)))) (HE1.out.of enE_len (by (show Ext _ _; repeat (first | with_reducible exact Ext.refl _ | with_reducible refine Ext.ext ?_ _ | with_reducible refine Ext.alloc ?_ _ | refine Ext.drew ?_ | refine Ext.drewN ?_ _ | exact Ext.refl _))))) as y w' ⟨v4, rfl, ⟨r4, rfl⟩, hv4⟩
      rw [HQ.out] at hv4 ⊢
      have HM4 := hid hv4
      obtain ⟨a4, c4, rfl, _, _⟩ := hv4
      go_wp2_with fail
      go_loopw [12, 52] (fun x i wr => ∃ (j : Nat) (b : Bool), j ≤ es.length ∧ i = .int .i64 j ∧ x = .bool b ∧ Hid (b = anyW (es.take j)) ∧ ∃ r, wr = ext ((ext ((ext (W.alloc (.cells #[.slice a1 m.length c1] 27)) r3).alloc (.cells #[.slice a3 n.length c3] 27)) r4).alloc (.cells #[.slice a4 n.length c4] 27)) r) (fun _ i _ => es.length - (intOf i).toNat)
      case atStart => exact ⟨0, false, by omega, rfl, rfl, rfl, by (show Ext _ _; repeat (first | with_reducible exact Ext.refl _ | with_reducible refine Ext.ext ?_ _ | with_reducible refine Ext.alloc ?_ _ | refine Ext.drew ?_ | refine Ext.drewN ?_ _ | exact Ext.refl _))⟩
      case round =>
        obtain ⟨j, b, hj, rfl, rfl, HJ, r, rfl⟩ := hrel
        by_cases hjl : j < es.length
        · have hd : decide (j < es.length) = true := decide_eq_true hjl
          obtain ⟨hnl, b0, o, hab, hbl, hcs⟩ := Sl.at HE1.out (List.getElem?_eq_getElem hjl)
          have HX := hid (List.getElem?_eq_getElem hjl)
          generalize es[j] = e at hcs HX
          have HA := hid (anyW_at HX.out)
          subst hab
          obtain ⟨loc, val, ver, ref, new, wr⟩ := e
          have c0 := hcs 0 (by omega)
          have c1 := hcs 1 (by omega)
          have c2 := hcs 2 (by omega)
          have c3 := hcs 3 (by omega)
          have c4 := hcs 4 (by omega)
          have c5 := hcs 5 (by omega)
          simp [enE] at c0 c1 c2 c3 c4 c5
          clear hcs hnl
          have HK := hid (show (b || wr) = anyW (es.take (j + 1)) by rw [HA.out, HJ.out])
          clear HA HJ
          cases b <;> cases wr
          all_goals
            go_wp2_with fail
            go_roundw
            case rel => exact ⟨j + 1, _, by omega, by go_num, rfl, HK.out, by (show Ext _ _; repeat (first | with_reducible exact Ext.refl _ | with_reducible refine Ext.ext ?_ _ | with_reducible refine Ext.alloc ?_ _ | refine Ext.drew ?_ | refine Ext.drewN ?_ _ | exact Ext.refl _))⟩
            case measure => simp [intOf]; omega
        · have hd : decide (j < es.length) = false := decide_eq_false hjl
          obtain rfl : j = es.length := by omega
          have hbw : b = ww := by rw [HJ.out, HB.out, List.take_length]
          subst hbw
          have hEQ : eqB n n = true := decide_eq_true rfl
          clear HJ HB
          cases b
          · have hEM : eqB n m = true := decide_eq_true (HN.out rfl)
            go_wp2_with fail
            refine wp_region_held_drew (S := fun w' => w'.cell? ⟨W.heap.size, 0, none⟩ = some (.slice a1 m.length c1) ∧ w'.cell? ⟨W.heap.size + 1 + r3.new.size, 0, none⟩ = some (.slice a3 n.length c3) ∧ w'.cell? ⟨W.heap.size + 1 + r3.new.size + 1 + r4.new.size, 0, none⟩ = some (.slice a4 n.length c4)) (by kernel_rfl) (⟨by simp [go_sem], by simp [go_sem], by simp [go_sem]⟩) (fun hHeld => ?_)
            refine take_only 0 (oi := ⟨_, _, _, _, _, _⟩) (by kernel_rfl) rfl (fun K hK => ?_)
            go_simp
            first
              | (go_at_call 9; refine (awake_any _).mono ?_; rintro e w' ⟨rfl, r7, rfl⟩)
              | (go_at_call 21; with_reducible (show Calls _ _ #[.agg #[.slice a3 n.length c3]] _ _); refine (words_any n _ _ hn100 (HM2.out.of wdE_len (by (show Ext _ _; repeat (first | with_reducible exact Ext.refl _ | with_reducible refine Ext.ext ?_ _ | with_reducible refine Ext.alloc ?_ _ | refine Ext.drew ?_ | refine Ext.drewN ?_ _ | exact Ext.refl _))))).mono ?_; rintro e w' ⟨v5, rfl, ⟨r8, rfl⟩, hv5⟩)
              | (go_at_call 21; with_reducible (show Calls _ _ #[.agg #[.slice a1 m.length c1]] _ _); refine (words_any m _ _ hl100 (HM.out.of wdE_len (by (show Ext _ _; repeat (first | with_reducible exact Ext.refl _ | with_reducible refine Ext.ext ?_ _ | with_reducible refine Ext.alloc ?_ _ | refine Ext.drew ?_ | refine Ext.drewN ?_ _ | exact Ext.refl _))))).mono ?_; rintro e w' ⟨v6, rfl, ⟨r9, rfl⟩, hv6⟩)
              | (go_at_call 18; refine (is_any n m _ _ _ hn100 (HM2.out.of wdE_len (by (show Ext _ _; repeat (first | with_reducible exact Ext.refl _ | with_reducible refine Ext.ext ?_ _ | with_reducible refine Ext.alloc ?_ _ | refine Ext.drew ?_ | refine Ext.drewN ?_ _ | exact Ext.refl _)))) ((Sl.of_own wdE_len hv6).of wdE_len (by (show Ext _ _; repeat (first | with_reducible exact Ext.refl _ | with_reducible refine Ext.ext ?_ _ | with_reducible refine Ext.alloc ?_ _ | refine Ext.drew ?_ | refine Ext.drewN ?_ _ | exact Ext.refl _))))).mono ?_; rintro e w' ⟨rfl, r11, rfl⟩; rw [hEM])
              | (go_at_call 18; refine (is_any n n _ _ _ hn100 (HM4.out.of wdE_len (by (show Ext _ _; repeat (first | with_reducible exact Ext.refl _ | with_reducible refine Ext.ext ?_ _ | with_reducible refine Ext.alloc ?_ _ | refine Ext.drew ?_ | refine Ext.drewN ?_ _ | exact Ext.refl _)))) ((Sl.of_own wdE_len hv5).of wdE_len (by (show Ext _ _; repeat (first | with_reducible exact Ext.refl _ | with_reducible refine Ext.ext ?_ _ | with_reducible refine Ext.alloc ?_ _ | refine Ext.drew ?_ | refine Ext.drewN ?_ _ | exact Ext.refl _))))).mono ?_; rintro e w' ⟨rfl, r10, rfl⟩; rw [hEQ])
            have hOld := hHeld
            clear hHeld
            refine hK.out _ _ (⟨by simp [go_sem], by simp [go_sem], by simp [go_sem]⟩) (fun hHeld => ?_)
            clear hOld hK K
            (try simp only [Act.put, List.setIfInBounds_toArray, List.set_cons_zero, List.set_cons_succ])
            refine take_met 1 (oi := ⟨_, _, _, _, _, _⟩) (v := ?_) (by kernel_rfl) rfl (by rfl) (fun _ _ _ h => h) (by assumption) ?_ ?_
            rotate_left 1
            · intro w hSw
              try dsimp only at hSw
              go_simp
              try with_reducible rfl
            (try simp only [Act.put, List.setIfInBounds_toArray, List.set_cons_zero, List.set_cons_succ])
            refine take_met 2 (oi := ⟨_, _, _, _, _, _⟩) (v := ?_) (by kernel_rfl) rfl (by rfl) (fun _ _ _ h => h) (by assumption) ?_ ?_
            rotate_left 1
            · intro w hSw
              try dsimp only at hSw
              go_simp
              try with_reducible rfl
            (try simp only [Act.put, List.setIfInBounds_toArray, List.set_cons_zero, List.set_cons_succ])
            refine take_met 3 (oi := ⟨_, _, _, _, _, _⟩) (v := ?_) (by kernel_rfl) rfl (by rfl) (fun _ _ _ h => h) (by assumption) ?_ ?_
            rotate_left 1
            · intro w hSw
              try dsimp only at hSw
              go_simp
              try with_reducible rfl
            (try simp only [Act.put, List.setIfInBounds_toArray, List.set_cons_zero, List.set_cons_succ])
            refine take_met 4 (oi := ⟨_, _, _, _, _, _⟩) (v := ?_) (by kernel_rfl) rfl (by rfl) (fun _ _ _ h => h) (by assumption) ?_ ?_
            rotate_left 1
            · intro w hSw
              try dsimp only at hSw
              go_simp
              try with_reducible rfl
            (try simp only [Act.put, List.setIfInBounds_toArray, List.set_cons_zero, List.set_cons_succ])
            refine take_met 5 (oi := ⟨_, _, _, _, _, _⟩) (v := ?_) (by kernel_rfl) rfl (by rfl) (fun _ _ _ h => h) (by assumption) ?_ ?_
            rotate_left 1
            · intro w hSw
              try dsimp only at hSw
              go_simp
              try with_reducible rfl
            (try simp only [Act.put, List.setIfInBounds_toArray, List.set_cons_zero, List.set_cons_succ])
            refine take_met 6 (oi := ⟨_, _, _, _, _, _⟩) (v := ?_) (by kernel_rfl) rfl (by rfl) (fun _ _ _ h => h) (by assumption) ?_ ?_
            rotate_left 1
            · intro w hSw
              try dsimp only at hSw
              go_simp
              try with_reducible rfl
            (try simp only [Act.put, List.setIfInBounds_toArray, List.set_cons_zero, List.set_cons_succ])
            refine take_met 7 (oi := ⟨_, _, _, _, _, _⟩) (v := ?_) (by kernel_rfl) rfl (by rfl) (fun _ _ _ h => h) (by assumption) ?_ ?_
            rotate_left 1
            · intro w hSw
              try dsimp only at hSw
              go_simp
              try with_reducible rfl
            (try simp only [Act.put, List.setIfInBounds_toArray, List.set_cons_zero, List.set_cons_succ])
            refine take_met 8 (oi := ⟨_, _, _, _, _, _⟩) (v := ?_) (by kernel_rfl) rfl (by rfl) (fun _ _ _ h => h) (by assumption) ?_ ?_
            rotate_left 1
            · intro w hSw
              try dsimp only at hSw
              go_simp
              try with_reducible rfl
            (try simp only [Act.put, List.setIfInBounds_toArray, List.set_cons_zero, List.set_cons_succ])
            refine take_met 9 (oi := ⟨_, _, _, _, _, _⟩) (v := ?_) (by kernel_rfl) rfl (by rfl) (fun _ _ _ h => h) (by assumption) ?_ ?_
            rotate_left 1
            · intro w hSw
              try dsimp only at hSw
              go_simp
              try with_reducible rfl
            (try simp only [Act.put, List.setIfInBounds_toArray, List.set_cons_zero, List.set_cons_succ])
            refine take_met 10 (oi := ⟨_, _, _, _, _, _⟩) (v := ?_) (by kernel_rfl) rfl (by rfl) (fun _ _ _ h => h) (by assumption) ?_ ?_
            rotate_left 1
            · intro w hSw
              try dsimp only at hSw
              go_simp
              try with_reducible rfl
            (try simp only [Act.put, List.setIfInBounds_toArray, List.set_cons_zero, List.set_cons_succ])
            refine take_met 11 (oi := ⟨_, _, _, _, _, _⟩) (v := ?_) (by kernel_rfl) rfl (by rfl) (fun _ _ _ h => h) (by assumption) ?_ ?_
            rotate_left 1
            · intro w hSw
              try dsimp only at hSw
              go_simp
              try with_reducible rfl
            (try simp only [Act.put, List.setIfInBounds_toArray, List.set_cons_zero, List.set_cons_succ])
            refine take_met 12 (oi := ⟨_, _, _, _, _, _⟩) (v := ?_) (by kernel_rfl) rfl (by rfl) (fun _ _ _ h => h) (by assumption) ?_ ?_
            rotate_left 1
            · intro w hSw
              try dsimp only at hSw
              go_simp
              try with_reducible rfl
            (try simp only [Act.put, List.setIfInBounds_toArray, List.set_cons_zero, List.set_cons_succ])
            refine take_met 13 (oi := ⟨_, _, _, _, _, _⟩) (v := ?_) (by kernel_rfl) rfl (by rfl) (fun _ _ _ h => h) (by assumption) ?_ ?_
            rotate_left 1
            · intro w hSw
              try dsimp only at hSw
              go_simp
              try with_reducible rfl
            (try simp only [Act.put, List.setIfInBounds_toArray, List.set_cons_zero, List.set_cons_succ])
            refine take_only 14 (oi := ⟨_, _, _, _, _, _⟩) (by kernel_rfl) rfl (fun K hK => ?_)
            go_simp
            first
              | (go_at_call 9; refine (awake_any _).mono ?_; rintro e w' ⟨rfl, r7, rfl⟩)
              | (go_at_call 21; with_reducible (show Calls _ _ #[.agg #[.slice a3 n.length c3]] _ _); refine (words_any n _ _ hn100 (HM2.out.of wdE_len (by (show Ext _ _; repeat (first | with_reducible exact Ext.refl _ | with_reducible refine Ext.ext ?_ _ | with_reducible refine Ext.alloc ?_ _ | refine Ext.drew ?_ | refine Ext.drewN ?_ _ | exact Ext.refl _))))).mono ?_; rintro e w' ⟨v5, rfl, ⟨r8, rfl⟩, hv5⟩)
              | (go_at_call 21; with_reducible (show Calls _ _ #[.agg #[.slice a1 m.length c1]] _ _); refine (words_any m _ _ hl100 (HM.out.of wdE_len (by (show Ext _ _; repeat (first | with_reducible exact Ext.refl _ | with_reducible refine Ext.ext ?_ _ | with_reducible refine Ext.alloc ?_ _ | refine Ext.drew ?_ | refine Ext.drewN ?_ _ | exact Ext.refl _))))).mono ?_; rintro e w' ⟨v6, rfl, ⟨r9, rfl⟩, hv6⟩)
              | (go_at_call 18; refine (is_any n m _ _ _ hn100 (HM2.out.of wdE_len (by (show Ext _ _; repeat (first | with_reducible exact Ext.refl _ | with_reducible refine Ext.ext ?_ _ | with_reducible refine Ext.alloc ?_ _ | refine Ext.drew ?_ | refine Ext.drewN ?_ _ | exact Ext.refl _)))) ((Sl.of_own wdE_len hv6).of wdE_len (by (show Ext _ _; repeat (first | with_reducible exact Ext.refl _ | with_reducible refine Ext.ext ?_ _ | with_reducible refine Ext.alloc ?_ _ | refine Ext.drew ?_ | refine Ext.drewN ?_ _ | exact Ext.refl _))))).mono ?_; rintro e w' ⟨rfl, r11, rfl⟩; rw [hEM])
              | (go_at_call 18; refine (is_any n n _ _ _ hn100 (HM4.out.of wdE_len (by (show Ext _ _; repeat (first | with_reducible exact Ext.refl _ | with_reducible refine Ext.ext ?_ _ | with_reducible refine Ext.alloc ?_ _ | refine Ext.drew ?_ | refine Ext.drewN ?_ _ | exact Ext.refl _)))) ((Sl.of_own wdE_len hv5).of wdE_len (by (show Ext _ _; repeat (first | with_reducible exact Ext.refl _ | with_reducible refine Ext.ext ?_ _ | with_reducible refine Ext.alloc ?_ _ | refine Ext.drew ?_ | refine Ext.drewN ?_ _ | exact Ext.refl _))))).mono ?_; rintro e w' ⟨rfl, r10, rfl⟩; rw [hEQ])
            have hOld := hHeld
            clear hHeld
            refine hK.out _ _ (⟨by simp [go_sem], by simp [go_sem], by simp [go_sem]⟩) (fun hHeld => ?_)
            clear hOld hK K
            (try simp only [Act.put, List.setIfInBounds_toArray, List.set_cons_zero, List.set_cons_succ])
            refine take_only 15 (oi := ⟨_, _, _, _, _, _⟩) (by kernel_rfl) rfl (fun K hK => ?_)
            go_simp
            first
              | (go_at_call 9; refine (awake_any _).mono ?_; rintro e w' ⟨rfl, r7, rfl⟩)
              | (go_at_call 21; with_reducible (show Calls _ _ #[.agg #[.slice a3 n.length c3]] _ _); refine (words_any n _ _ hn100 (HM2.out.of wdE_len (by (show Ext _ _; repeat (first | with_reducible exact Ext.refl _ | with_reducible refine Ext.ext ?_ _ | with_reducible refine Ext.alloc ?_ _ | refine Ext.drew ?_ | refine Ext.drewN ?_ _ | exact Ext.refl _))))).mono ?_; rintro e w' ⟨v5, rfl, ⟨r8, rfl⟩, hv5⟩)
              | (go_at_call 21; with_reducible (show Calls _ _ #[.agg #[.slice a1 m.length c1]] _ _); refine (words_any m _ _ hl100 (HM.out.of wdE_len (by (show Ext _ _; repeat (first | with_reducible exact Ext.refl _ | with_reducible refine Ext.ext ?_ _ | with_reducible refine Ext.alloc ?_ _ | refine Ext.drew ?_ | refine Ext.drewN ?_ _ | exact Ext.refl _))))).mono ?_; rintro e w' ⟨v6, rfl, ⟨r9, rfl⟩, hv6⟩)
              | (go_at_call 18; refine (is_any n m _ _ _ hn100 (HM2.out.of wdE_len (by (show Ext _ _; repeat (first | with_reducible exact Ext.refl _ | with_reducible refine Ext.ext ?_ _ | with_reducible refine Ext.alloc ?_ _ | refine Ext.drew ?_ | refine Ext.drewN ?_ _ | exact Ext.refl _)))) ((Sl.of_own wdE_len hv6).of wdE_len (by (show Ext _ _; repeat (first | with_reducible exact Ext.refl _ | with_reducible refine Ext.ext ?_ _ | with_reducible refine Ext.alloc ?_ _ | refine Ext.drew ?_ | refine Ext.drewN ?_ _ | exact Ext.refl _))))).mono ?_; rintro e w' ⟨rfl, r11, rfl⟩; rw [hEM])
              | (go_at_call 18; refine (is_any n n _ _ _ hn100 (HM4.out.of wdE_len (by (show Ext _ _; repeat (first | with_reducible exact Ext.refl _ | with_reducible refine Ext.ext ?_ _ | with_reducible refine Ext.alloc ?_ _ | refine Ext.drew ?_ | refine Ext.drewN ?_ _ | exact Ext.refl _)))) ((Sl.of_own wdE_len hv5).of wdE_len (by (show Ext _ _; repeat (first | with_reducible exact Ext.refl _ | with_reducible refine Ext.ext ?_ _ | with_reducible refine Ext.alloc ?_ _ | refine Ext.drew ?_ | refine Ext.drewN ?_ _ | exact Ext.refl _))))).mono ?_; rintro e w' ⟨rfl, r10, rfl⟩; rw [hEQ])
            have hOld := hHeld
            clear hHeld
            refine hK.out _ _ (⟨by simp [go_sem], by simp [go_sem], by simp [go_sem]⟩) (fun hHeld => ?_)
            clear hOld hK K
            (try simp only [Act.put, List.setIfInBounds_toArray, List.set_cons_zero, List.set_cons_succ])
            refine take_met 16 (oi := ⟨_, _, _, _, _, _⟩) (v := ?_) (by kernel_rfl) rfl (by rfl) (fun _ _ _ h => h) (by assumption) ?_ ?_
            rotate_left 1
            · intro w hSw
              try dsimp only at hSw
              go_simp
              try with_reducible rfl
            (try simp only [Act.put, List.setIfInBounds_toArray, List.set_cons_zero, List.set_cons_succ])
            refine take_met 17 (oi := ⟨_, _, _, _, _, _⟩) (v := ?_) (by kernel_rfl) rfl (by rfl) (fun _ _ _ h => h) (by assumption) ?_ ?_
            rotate_left 1
            · intro w hSw
              try dsimp only at hSw
              go_simp
              try with_reducible rfl
            (try simp only [Act.put, List.setIfInBounds_toArray, List.set_cons_zero, List.set_cons_succ])
            refine take_met 18 (oi := ⟨_, _, _, _, _, _⟩) (v := ?_) (by kernel_rfl) rfl (by rfl) (fun _ _ _ h => h) (by assumption) ?_ ?_
            rotate_left 1
            · intro w hSw
              try dsimp only at hSw
              go_simp
              try with_reducible rfl
            (try simp only [Act.put, List.setIfInBounds_toArray, List.set_cons_zero, List.set_cons_succ])
            refine take_met 19 (oi := ⟨_, _, _, _, _, _⟩) (v := ?_) (by kernel_rfl) rfl (by rfl) (fun _ _ _ h => h) (by assumption) ?_ ?_
            rotate_left 1
            · intro w hSw
              try dsimp only at hSw
              go_simp
              try with_reducible rfl
            (try simp only [Act.put, List.setIfInBounds_toArray, List.set_cons_zero, List.set_cons_succ])
            refine take_met 20 (oi := ⟨_, _, _, _, _, _⟩) (v := ?_) (by kernel_rfl) rfl (by rfl) (fun _ _ _ h => h) (by assumption) ?_ ?_
            rotate_left 1
            · intro w hSw
              try dsimp only at hSw
              go_simp
              try with_reducible rfl
            (try simp only [Act.put, List.setIfInBounds_toArray, List.set_cons_zero, List.set_cons_succ])
            refine take_met 21 (oi := ⟨_, _, _, _, _, _⟩) (v := ?_) (by kernel_rfl) rfl (by rfl) (fun _ _ _ h => h) (by assumption) ?_ ?_
            rotate_left 1
            · intro w hSw
              try dsimp only at hSw
              go_simp
              try with_reducible rfl
            (try simp only [Act.put, List.setIfInBounds_toArray, List.set_cons_zero, List.set_cons_succ])
            refine take_only 22 (oi := ⟨_, _, _, _, _, _⟩) (by kernel_rfl) rfl (fun K hK => ?_)
            go_simp
            first
              | (go_at_call 9; refine (awake_any _).mono ?_; rintro e w' ⟨rfl, r7, rfl⟩)
              | (go_at_call 21; with_reducible (show Calls _ _ #[.agg #[.slice a3 n.length c3]] _ _); refine (words_any n _ _ hn100 (HM2.out.of wdE_len (by (show Ext _ _; repeat (first | with_reducible exact Ext.refl _ | with_reducible refine Ext.ext ?_ _ | with_reducible refine Ext.alloc ?_ _ | refine Ext.drew ?_ | refine Ext.drewN ?_ _ | exact Ext.refl _))))).mono ?_; rintro e w' ⟨v5, rfl, ⟨r8, rfl⟩, hv5⟩)
              | (go_at_call 21; with_reducible (show Calls _ _ #[.agg #[.slice a1 m.length c1]] _ _); refine (words_any m _ _ hl100 (HM.out.of wdE_len (by (show Ext _ _; repeat (first | with_reducible exact Ext.refl _ | with_reducible refine Ext.ext ?_ _ | with_reducible refine Ext.alloc ?_ _ | refine Ext.drew ?_ | refine Ext.drewN ?_ _ | exact Ext.refl _))))).mono ?_; rintro e w' ⟨v6, rfl, ⟨r9, rfl⟩, hv6⟩)
              | (go_at_call 18; refine (is_any n m _ _ _ hn100 (HM2.out.of wdE_len (by (show Ext _ _; repeat (first | with_reducible exact Ext.refl _ | with_reducible refine Ext.ext ?_ _ | with_reducible refine Ext.alloc ?_ _ | refine Ext.drew ?_ | refine Ext.drewN ?_ _ | exact Ext.refl _)))) ((Sl.of_own wdE_len hv6).of wdE_len (by (show Ext _ _; repeat (first | with_reducible exact Ext.refl _ | with_reducible refine Ext.ext ?_ _ | with_reducible refine Ext.alloc ?_ _ | refine Ext.drew ?_ | refine Ext.drewN ?_ _ | exact Ext.refl _))))).mono ?_; rintro e w' ⟨rfl, r11, rfl⟩; rw [hEM])
              | (go_at_call 18; refine (is_any n n _ _ _ hn100 (HM4.out.of wdE_len (by (show Ext _ _; repeat (first | with_reducible exact Ext.refl _ | with_reducible refine Ext.ext ?_ _ | with_reducible refine Ext.alloc ?_ _ | refine Ext.drew ?_ | refine Ext.drewN ?_ _ | exact Ext.refl _)))) ((Sl.of_own wdE_len hv5).of wdE_len (by (show Ext _ _; repeat (first | with_reducible exact Ext.refl _ | with_reducible refine Ext.ext ?_ _ | with_reducible refine Ext.alloc ?_ _ | refine Ext.drew ?_ | refine Ext.drewN ?_ _ | exact Ext.refl _))))).mono ?_; rintro e w' ⟨rfl, r10, rfl⟩; rw [hEQ])
            have hOld := hHeld
            clear hHeld
            refine hK.out _ _ (⟨by simp [go_sem], by simp [go_sem], by simp [go_sem]⟩) (fun hHeld => ?_)
            clear hOld hK K
            (try simp only [Act.put, List.setIfInBounds_toArray, List.set_cons_zero, List.set_cons_succ])
            refine take_only 23 (oi := ⟨_, _, _, _, _, _⟩) (by kernel_rfl) rfl (fun K hK => ?_)
            go_simp
            first
              | (go_at_call 9; refine (awake_any _).mono ?_; rintro e w' ⟨rfl, r7, rfl⟩)
              | (go_at_call 21; with_reducible (show Calls _ _ #[.agg #[.slice a3 n.length c3]] _ _); refine (words_any n _ _ hn100 (HM2.out.of wdE_len (by (show Ext _ _; repeat (first | with_reducible exact Ext.refl _ | with_reducible refine Ext.ext ?_ _ | with_reducible refine Ext.alloc ?_ _ | refine Ext.drew ?_ | refine Ext.drewN ?_ _ | exact Ext.refl _))))).mono ?_; rintro e w' ⟨v5, rfl, ⟨r8, rfl⟩, hv5⟩)
              | (go_at_call 21; with_reducible (show Calls _ _ #[.agg #[.slice a1 m.length c1]] _ _); refine (words_any m _ _ hl100 (HM.out.of wdE_len (by (show Ext _ _; repeat (first | with_reducible exact Ext.refl _ | with_reducible refine Ext.ext ?_ _ | with_reducible refine Ext.alloc ?_ _ | refine Ext.drew ?_ | refine Ext.drewN ?_ _ | exact Ext.refl _))))).mono ?_; rintro e w' ⟨v6, rfl, ⟨r9, rfl⟩, hv6⟩)
              | (go_at_call 18; refine (is_any n m _ _ _ hn100 (HM2.out.of wdE_len (by (show Ext _ _; repeat (first | with_reducible exact Ext.refl _ | with_reducible refine Ext.ext ?_ _ | with_reducible refine Ext.alloc ?_ _ | refine Ext.drew ?_ | refine Ext.drewN ?_ _ | exact Ext.refl _)))) ((Sl.of_own wdE_len hv6).of wdE_len (by (show Ext _ _; repeat (first | with_reducible exact Ext.refl _ | with_reducible refine Ext.ext ?_ _ | with_reducible refine Ext.alloc ?_ _ | refine Ext.drew ?_ | refine Ext.drewN ?_ _ | exact Ext.refl _))))).mono ?_; rintro e w' ⟨rfl, r11, rfl⟩; rw [hEM])
              | (go_at_call 18; refine (is_any n n _ _ _ hn100 (HM4.out.of wdE_len (by (show Ext _ _; repeat (first | with_reducible exact Ext.refl _ | with_reducible refine Ext.ext ?_ _ | with_reducible refine Ext.alloc ?_ _ | refine Ext.drew ?_ | refine Ext.drewN ?_ _ | exact Ext.refl _)))) ((Sl.of_own wdE_len hv5).of wdE_len (by (show Ext _ _; repeat (first | with_reducible exact Ext.refl _ | with_reducible refine Ext.ext ?_ _ | with_reducible refine Ext.alloc ?_ _ | refine Ext.drew ?_ | refine Ext.drewN ?_ _ | exact Ext.refl _))))).mono ?_; rintro e w' ⟨rfl, r10, rfl⟩; rw [hEQ])
            have hOld := hHeld
            clear hHeld
            refine hK.out _ _ (⟨by simp [go_sem], by simp [go_sem], by simp [go_sem]⟩) (fun hHeld => ?_)
            clear hOld hK K
            (try simp only [Act.put, List.setIfInBounds_toArray, List.set_cons_zero, List.set_cons_succ])
            refine take_met 24 (oi := ⟨_, _, _, _, _, _⟩) (v := ?_) (by kernel_rfl) rfl (by rfl) (fun _ _ _ h => h) (by assumption) ?_ ?_
            rotate_left 1
            · intro w hSw
              try dsimp only at hSw
              go_simp
              try with_reducible rfl
            (try simp only [Act.put, List.setIfInBounds_toArray, List.set_cons_zero, List.set_cons_succ])
            refine take_met 25 (oi := ⟨_, _, _, _, _, _⟩) (v := ?_) (by kernel_rfl) rfl (by rfl) (fun _ _ _ h => h) (by assumption) ?_ ?_
            rotate_left 1
            · intro w hSw
              try dsimp only at hSw
              go_simp
              try with_reducible rfl
            (try simp only [Act.put, List.setIfInBounds_toArray, List.set_cons_zero, List.set_cons_succ])
            refine take_met 26 (oi := ⟨_, _, _, _, _, _⟩) (v := ?_) (by kernel_rfl) rfl (by rfl) (fun _ _ _ h => h) (by assumption) ?_ ?_
            rotate_left 1
            · intro w hSw
              try dsimp only at hSw
              go_simp
              try with_reducible rfl
            (try simp only [Act.put, List.setIfInBounds_toArray, List.set_cons_zero, List.set_cons_succ])
            refine wpAnyH_done (by kernel_rfl) ?_ _
            go_wp2_with fail
            go_ret
            exact ⟨rfl, HW.out.trans (by (show Ext _ _; repeat (first | with_reducible exact Ext.refl _ | with_reducible refine Ext.ext ?_ _ | with_reducible refine Ext.alloc ?_ _ | refine Ext.drew ?_ | refine Ext.drewN ?_ _ | exact Ext.refl _)))⟩
          · go_wp2_with fail
            refine wp_region_held_drew (S := fun w' => w'.cell? ⟨W.heap.size, 0, none⟩ = some (.slice a1 m.length c1) ∧ w'.cell? ⟨W.heap.size + 1 + r3.new.size, 0, none⟩ = some (.slice a3 n.length c3) ∧ w'.cell? ⟨W.heap.size + 1 + r3.new.size + 1 + r4.new.size, 0, none⟩ = some (.slice a4 n.length c4)) (by kernel_rfl) (⟨by simp [go_sem], by simp [go_sem], by simp [go_sem]⟩) (fun hHeld => ?_)
            refine take_only 0 (oi := ⟨_, _, _, _, _, _⟩) (by kernel_rfl) rfl (fun K hK => ?_)
            go_simp
            first
              | (go_at_call 9; refine (awake_any _).mono ?_; rintro e w' ⟨rfl, r7, rfl⟩)
              | (go_at_call 21; refine (words_any n _ _ hn100 (HM2.out.of wdE_len (by (show Ext _ _; repeat (first | with_reducible exact Ext.refl _ | with_reducible refine Ext.ext ?_ _ | with_reducible refine Ext.alloc ?_ _ | refine Ext.drew ?_ | refine Ext.drewN ?_ _ | exact Ext.refl _))))).mono ?_; rintro e w' ⟨v5, rfl, ⟨r8, rfl⟩, hv5⟩)
              | (go_at_call 18; refine (is_any n n _ _ _ hn100 (HM4.out.of wdE_len (by (show Ext _ _; repeat (first | with_reducible exact Ext.refl _ | with_reducible refine Ext.ext ?_ _ | with_reducible refine Ext.alloc ?_ _ | refine Ext.drew ?_ | refine Ext.drewN ?_ _ | exact Ext.refl _)))) ((Sl.of_own wdE_len hv5).of wdE_len (by (show Ext _ _; repeat (first | with_reducible exact Ext.refl _ | with_reducible refine Ext.ext ?_ _ | with_reducible refine Ext.alloc ?_ _ | refine Ext.drew ?_ | refine Ext.drewN ?_ _ | exact Ext.refl _))))).mono ?_; rintro e w' ⟨rfl, r10, rfl⟩; rw [hEQ])
            have hOld := hHeld
            clear hHeld
            refine hK.out _ _ (⟨by simp [go_sem], by simp [go_sem], by simp [go_sem]⟩) (fun hHeld => ?_)
            clear hOld hK K
            (try simp only [Act.put, List.setIfInBounds_toArray, List.set_cons_zero, List.set_cons_succ])
            refine take_met 1 (oi := ⟨_, _, _, _, _, _⟩) (v := ?_) (by kernel_rfl) rfl (by rfl) (fun _ _ _ h => h) (by assumption) ?_ ?_
            rotate_left 1
            · intro w hSw
              try dsimp only at hSw
              go_simp
              try with_reducible rfl
            (try simp only [Act.put, List.setIfInBounds_toArray, List.set_cons_zero, List.set_cons_succ])
            refine take_met 2 (oi := ⟨_, _, _, _, _, _⟩) (v := ?_) (by kernel_rfl) rfl (by rfl) (fun _ _ _ h => h) (by assumption) ?_ ?_
            rotate_left 1
            · intro w hSw
              try dsimp only at hSw
              go_simp
              try with_reducible rfl
            (try simp only [Act.put, List.setIfInBounds_toArray, List.set_cons_zero, List.set_cons_succ])
            refine take_met 3 (oi := ⟨_, _, _, _, _, _⟩) (v := ?_) (by kernel_rfl) rfl (by rfl) (fun _ _ _ h => h) (by assumption) ?_ ?_
            rotate_left 1
            · intro w hSw
              try dsimp only at hSw
              go_simp
              try with_reducible rfl
            (try simp only [Act.put, List.setIfInBounds_toArray, List.set_cons_zero, List.set_cons_succ])
            refine take_met 4 (oi := ⟨_, _, _, _, _, _⟩) (v := ?_) (by kernel_rfl) rfl (by rfl) (fun _ _ _ h => h) (by assumption) ?_ ?_
            rotate_left 1
            · intro w hSw
              try dsimp only at hSw
              go_simp
              try with_reducible rfl
            (try simp only [Act.put, List.setIfInBounds_toArray, List.set_cons_zero, List.set_cons_succ])
            refine take_met 5 (oi := ⟨_, _, _, _, _, _⟩) (v := ?_) (by kernel_rfl) rfl (by rfl) (fun _ _ _ h => h) (by assumption) ?_ ?_
            rotate_left 1
            · intro w hSw
              try dsimp only at hSw
              go_simp
              try with_reducible rfl
            (try simp only [Act.put, List.setIfInBounds_toArray, List.set_cons_zero, List.set_cons_succ])
            refine take_met 6 (oi := ⟨_, _, _, _, _, _⟩) (v := ?_) (by kernel_rfl) rfl (by rfl) (fun _ _ _ h => h) (by assumption) ?_ ?_
            rotate_left 1
            · intro w hSw
              try dsimp only at hSw
              go_simp
              try with_reducible rfl
            (try simp only [Act.put, List.setIfInBounds_toArray, List.set_cons_zero, List.set_cons_succ])
            refine take_met 7 (oi := ⟨_, _, _, _, _, _⟩) (v := ?_) (by kernel_rfl) rfl (by rfl) (fun _ _ _ h => h) (by assumption) ?_ ?_
            rotate_left 1
            · intro w hSw
              try dsimp only at hSw
              go_simp
              try with_reducible rfl
            (try simp only [Act.put, List.setIfInBounds_toArray, List.set_cons_zero, List.set_cons_succ])
            refine take_met 8 (oi := ⟨_, _, _, _, _, _⟩) (v := ?_) (by kernel_rfl) rfl (by rfl) (fun _ _ _ h => h) (by assumption) ?_ ?_
            rotate_left 1
            · intro w hSw
              try dsimp only at hSw
              go_simp
              try with_reducible rfl
            (try simp only [Act.put, List.setIfInBounds_toArray, List.set_cons_zero, List.set_cons_succ])
            refine take_met 9 (oi := ⟨_, _, _, _, _, _⟩) (v := ?_) (by kernel_rfl) rfl (by rfl) (fun _ _ _ h => h) (by assumption) ?_ ?_
            rotate_left 1
            · intro w hSw
              try dsimp only at hSw
              go_simp
              try with_reducible rfl
            (try simp only [Act.put, List.setIfInBounds_toArray, List.set_cons_zero, List.set_cons_succ])
            refine take_met 10 (oi := ⟨_, _, _, _, _, _⟩) (v := ?_) (by kernel_rfl) rfl (by rfl) (fun _ _ _ h => h) (by assumption) ?_ ?_
            rotate_left 1
            · intro w hSw
              try dsimp only at hSw
              go_simp
              try with_reducible rfl
            (try simp only [Act.put, List.setIfInBounds_toArray, List.set_cons_zero, List.set_cons_succ])
            refine take_met 11 (oi := ⟨_, _, _, _, _, _⟩) (v := ?_) (by kernel_rfl) rfl (by rfl) (fun _ _ _ h => h) (by assumption) ?_ ?_
            rotate_left 1
            · intro w hSw
              try dsimp only at hSw
              go_simp
              try with_reducible rfl
            (try simp only [Act.put, List.setIfInBounds_toArray, List.set_cons_zero, List.set_cons_succ])
            refine take_met 12 (oi := ⟨_, _, _, _, _, _⟩) (v := ?_) (by kernel_rfl) rfl (by rfl) (fun _ _ _ h => h) (by assumption) ?_ ?_
            rotate_left 1
            · intro w hSw
              try dsimp only at hSw
              go_simp
              try with_reducible rfl
            (try simp only [Act.put, List.setIfInBounds_toArray, List.set_cons_zero, List.set_cons_succ])
            refine take_met 13 (oi := ⟨_, _, _, _, _, _⟩) (v := ?_) (by kernel_rfl) rfl (by rfl) (fun _ _ _ h => h) (by assumption) ?_ ?_
            rotate_left 1
            · intro w hSw
              try dsimp only at hSw
              go_simp
              try with_reducible rfl
            (try simp only [Act.put, List.setIfInBounds_toArray, List.set_cons_zero, List.set_cons_succ])
            refine take_only 14 (oi := ⟨_, _, _, _, _, _⟩) (by kernel_rfl) rfl (fun K hK => ?_)
            go_simp
            first
              | (go_at_call 9; refine (awake_any _).mono ?_; rintro e w' ⟨rfl, r7, rfl⟩)
              | (go_at_call 21; refine (words_any n _ _ hn100 (HM2.out.of wdE_len (by (show Ext _ _; repeat (first | with_reducible exact Ext.refl _ | with_reducible refine Ext.ext ?_ _ | with_reducible refine Ext.alloc ?_ _ | refine Ext.drew ?_ | refine Ext.drewN ?_ _ | exact Ext.refl _))))).mono ?_; rintro e w' ⟨v5, rfl, ⟨r8, rfl⟩, hv5⟩)
              | (go_at_call 18; refine (is_any n n _ _ _ hn100 (HM4.out.of wdE_len (by (show Ext _ _; repeat (first | with_reducible exact Ext.refl _ | with_reducible refine Ext.ext ?_ _ | with_reducible refine Ext.alloc ?_ _ | refine Ext.drew ?_ | refine Ext.drewN ?_ _ | exact Ext.refl _)))) ((Sl.of_own wdE_len hv5).of wdE_len (by (show Ext _ _; repeat (first | with_reducible exact Ext.refl _ | with_reducible refine Ext.ext ?_ _ | with_reducible refine Ext.alloc ?_ _ | refine Ext.drew ?_ | refine Ext.drewN ?_ _ | exact Ext.refl _))))).mono ?_; rintro e w' ⟨rfl, r10, rfl⟩; rw [hEQ])
            have hOld := hHeld
            clear hHeld
            refine hK.out _ _ (⟨by simp [go_sem], by simp [go_sem], by simp [go_sem]⟩) (fun hHeld => ?_)
            clear hOld hK K
            (try simp only [Act.put, List.setIfInBounds_toArray, List.set_cons_zero, List.set_cons_succ])
            refine take_only 15 (oi := ⟨_, _, _, _, _, _⟩) (by kernel_rfl) rfl (fun K hK => ?_)
            go_simp
            first
              | (go_at_call 9; refine (awake_any _).mono ?_; rintro e w' ⟨rfl, r7, rfl⟩)
              | (go_at_call 21; refine (words_any n _ _ hn100 (HM2.out.of wdE_len (by (show Ext _ _; repeat (first | with_reducible exact Ext.refl _ | with_reducible refine Ext.ext ?_ _ | with_reducible refine Ext.alloc ?_ _ | refine Ext.drew ?_ | refine Ext.drewN ?_ _ | exact Ext.refl _))))).mono ?_; rintro e w' ⟨v5, rfl, ⟨r8, rfl⟩, hv5⟩)
              | (go_at_call 18; refine (is_any n n _ _ _ hn100 (HM4.out.of wdE_len (by (show Ext _ _; repeat (first | with_reducible exact Ext.refl _ | with_reducible refine Ext.ext ?_ _ | with_reducible refine Ext.alloc ?_ _ | refine Ext.drew ?_ | refine Ext.drewN ?_ _ | exact Ext.refl _)))) ((Sl.of_own wdE_len hv5).of wdE_len (by (show Ext _ _; repeat (first | with_reducible exact Ext.refl _ | with_reducible refine Ext.ext ?_ _ | with_reducible refine Ext.alloc ?_ _ | refine Ext.drew ?_ | refine Ext.drewN ?_ _ | exact Ext.refl _))))).mono ?_; rintro e w' ⟨rfl, r10, rfl⟩; rw [hEQ])
            have hOld := hHeld
            clear hHeld
            refine hK.out _ _ (⟨by simp [go_sem], by simp [go_sem], by simp [go_sem]⟩) (fun hHeld => ?_)
            clear hOld hK K
            (try simp only [Act.put, List.setIfInBounds_toArray, List.set_cons_zero, List.set_cons_succ])
            refine take_met 16 (oi := ⟨_, _, _, _, _, _⟩) (v := ?_) (by kernel_rfl) rfl (by rfl) (fun _ _ _ h => h) (by assumption) ?_ ?_
            rotate_left 1
            · intro w hSw
              try dsimp only at hSw
              go_simp
              try with_reducible rfl
            (try simp only [Act.put, List.setIfInBounds_toArray, List.set_cons_zero, List.set_cons_succ])
            refine take_met 17 (oi := ⟨_, _, _, _, _, _⟩) (v := ?_) (by kernel_rfl) rfl (by rfl) (fun _ _ _ h => h) (by assumption) ?_ ?_
            rotate_left 1
            · intro w hSw
              try dsimp only at hSw
              go_simp
              try with_reducible rfl
            (try simp only [Act.put, List.setIfInBounds_toArray, List.set_cons_zero, List.set_cons_succ])
            refine take_met 18 (oi := ⟨_, _, _, _, _, _⟩) (v := ?_) (by kernel_rfl) rfl (by rfl) (fun _ _ _ h => h) (by assumption) ?_ ?_
            rotate_left 1
            · intro w hSw
              try dsimp only at hSw
              go_simp
              try with_reducible rfl
            (try simp only [Act.put, List.setIfInBounds_toArray, List.set_cons_zero, List.set_cons_succ])
            refine take_met 19 (oi := ⟨_, _, _, _, _, _⟩) (v := ?_) (by kernel_rfl) rfl (by rfl) (fun _ _ _ h => h) (by assumption) ?_ ?_
            rotate_left 1
            · intro w hSw
              try dsimp only at hSw
              go_simp
              try with_reducible rfl
            (try simp only [Act.put, List.setIfInBounds_toArray, List.set_cons_zero, List.set_cons_succ])
            refine take_unmet 20 (oi := ⟨_, _, _, _, _, _⟩) (by kernel_rfl) rfl (by rfl) (fun _ _ _ h => h) (by assumption) ?_
            (try simp only [Act.put, List.setIfInBounds_toArray, List.set_cons_zero, List.set_cons_succ])
            refine take_unmet 21 (oi := ⟨_, _, _, _, _, _⟩) (by kernel_rfl) rfl (by rfl) (fun _ _ _ h => h) (by assumption) ?_
            (try simp only [Act.put, List.setIfInBounds_toArray, List.set_cons_zero, List.set_cons_succ])
            refine take_unmet 22 (oi := ⟨_, _, _, _, _, _⟩) (by kernel_rfl) rfl (by rfl) (fun _ _ _ h => h) (by assumption) ?_
            (try simp only [Act.put, List.setIfInBounds_toArray, List.set_cons_zero, List.set_cons_succ])
            refine take_unmet 23 (oi := ⟨_, _, _, _, _, _⟩) (by kernel_rfl) rfl (by rfl) (fun _ _ _ h => h) (by assumption) ?_
            (try simp only [Act.put, List.setIfInBounds_toArray, List.set_cons_zero, List.set_cons_succ])
            refine take_met 24 (oi := ⟨_, _, _, _, _, _⟩) (v := ?_) (by kernel_rfl) rfl (by rfl) (fun _ _ _ h => h) (by assumption) ?_ ?_
            rotate_left 1
            · intro w hSw
              try dsimp only at hSw
              go_simp
              try with_reducible rfl
            (try simp only [Act.put, List.setIfInBounds_toArray, List.set_cons_zero, List.set_cons_succ])
            refine take_met 25 (oi := ⟨_, _, _, _, _, _⟩) (v := ?_) (by kernel_rfl) rfl (by rfl) (fun _ _ _ h => h) (by assumption) ?_ ?_
            rotate_left 1
            · intro w hSw
              try dsimp only at hSw
              go_simp
              try with_reducible rfl
            (try simp only [Act.put, List.setIfInBounds_toArray, List.set_cons_zero, List.set_cons_succ])
            refine take_met 26 (oi := ⟨_, _, _, _, _, _⟩) (v := ?_) (by kernel_rfl) rfl (by rfl) (fun _ _ _ h => h) (by assumption) ?_ ?_
            rotate_left 1
            · intro w hSw
              try dsimp only at hSw
              go_simp
              try with_reducible rfl
            (try simp only [Act.put, List.setIfInBounds_toArray, List.set_cons_zero, List.set_cons_succ])
            refine wpAnyH_done (by kernel_rfl) ?_ _
            go_wp2_with fail
            go_ret
            exact ⟨rfl, HW.out.trans (by (show Ext _ _; repeat (first | with_reducible exact Ext.refl _ | with_reducible refine Ext.ext ?_ _ | with_reducible refine Ext.alloc ?_ _ | refine Ext.drew ?_ | refine Ext.drewN ?_ _ | exact Ext.refl _)))⟩
    · rw [q3] at hv2 ⊢
      have HM2 := hid hv2
      obtain ⟨a3, c3, rfl, _, _⟩ := hv2
      have q1' : (e != 0) = true := by simpa using q1
      have hmm : eqB m m = true := decide_eq_true rfl
      clear q1 q3
      go_wp2_with fail
      refine wp_region_held_drew (S := fun w' => w'.cell? ⟨W.heap.size, 0, none⟩ = some (.slice a1 m.length c1) ∧ w'.cell? ⟨W.heap.size + 1 + r3.new.size, 0, none⟩ = some (.slice a3 m.length c3)) (by kernel_rfl) (⟨by simp [go_sem], by simp [go_sem]⟩) (fun hHeld => ?_)
      refine take_only 0 (oi := ⟨_, _, _, _, _, _⟩) (by kernel_rfl) rfl (fun K hK => ?_)
      go_simp
      first
        | (go_at_call 9; refine (awake_any _).mono ?_; rintro e w' ⟨rfl, r4, rfl⟩)
        | (go_at_call 21; refine (words_any m _ _ hl100 (HM.out.of wdE_len (by (show Ext _ _; repeat (first | with_reducible exact Ext.refl _ | with_reducible refine Ext.ext ?_ _ | with_reducible refine Ext.alloc ?_ _ | refine Ext.drew ?_ | refine Ext.drewN ?_ _ | exact Ext.refl _))))).mono ?_; rintro e w' ⟨v5, rfl, ⟨r5, rfl⟩, hv5⟩)
        | (go_at_call 18; refine (is_any m m _ _ _ hl100 (HM2.out.of wdE_len (by (show Ext _ _; repeat (first | with_reducible exact Ext.refl _ | with_reducible refine Ext.ext ?_ _ | with_reducible refine Ext.alloc ?_ _ | refine Ext.drew ?_ | refine Ext.drewN ?_ _ | exact Ext.refl _)))) ((Sl.of_own wdE_len hv5).of wdE_len (by (show Ext _ _; repeat (first | with_reducible exact Ext.refl _ | with_reducible refine Ext.ext ?_ _ | with_reducible refine Ext.alloc ?_ _ | refine Ext.drew ?_ | refine Ext.drewN ?_ _ | exact Ext.refl _))))).mono ?_; rintro e w' ⟨rfl, r6, rfl⟩)
      have hOld := hHeld
      clear hHeld
      refine hK.out _ _ (⟨by simp [go_sem], by simp [go_sem]⟩) (fun hHeld => ?_)
      clear hOld hK K
      (try simp only [Act.put, List.setIfInBounds_toArray, List.set_cons_zero, List.set_cons_succ])
      refine take_met 1 (oi := ⟨_, _, _, _, _, _⟩) (v := ?_) (by kernel_rfl) rfl (by rfl) (fun _ _ _ h => h) (by assumption) ?_ ?_
      rotate_left 1
      · intro w hSw
        try dsimp only at hSw
        go_simp
        try with_reducible rfl
      (try simp only [Act.put, List.setIfInBounds_toArray, List.set_cons_zero, List.set_cons_succ])
      refine take_met 2 (oi := ⟨_, _, _, _, _, _⟩) (v := ?_) (by kernel_rfl) rfl (by rfl) (fun _ _ _ h => h) (by assumption) ?_ ?_
      rotate_left 1
      · intro w hSw
        try dsimp only at hSw
        go_simp
        try with_reducible rfl
      (try simp only [Act.put, List.setIfInBounds_toArray, List.set_cons_zero, List.set_cons_succ])
      refine take_met 3 (oi := ⟨_, _, _, _, _, _⟩) (v := ?_) (by kernel_rfl) rfl (by rfl) (fun _ _ _ h => h) (by assumption) ?_ ?_
      rotate_left 1
      · intro w hSw
        try dsimp only at hSw
        go_simp
        try with_reducible rfl
      (try simp only [Act.put, List.setIfInBounds_toArray, List.set_cons_zero, List.set_cons_succ])
      refine take_only 4 (oi := ⟨_, _, _, _, _, _⟩) (by kernel_rfl) rfl (fun K hK => ?_)
      go_simp
      first
        | (go_at_call 9; refine (awake_any _).mono ?_; rintro e w' ⟨rfl, r4, rfl⟩)
        | (go_at_call 21; refine (words_any m _ _ hl100 (HM.out.of wdE_len (by (show Ext _ _; repeat (first | with_reducible exact Ext.refl _ | with_reducible refine Ext.ext ?_ _ | with_reducible refine Ext.alloc ?_ _ | refine Ext.drew ?_ | refine Ext.drewN ?_ _ | exact Ext.refl _))))).mono ?_; rintro e w' ⟨v5, rfl, ⟨r5, rfl⟩, hv5⟩)
        | (go_at_call 18; refine (is_any m m _ _ _ hl100 (HM2.out.of wdE_len (by (show Ext _ _; repeat (first | with_reducible exact Ext.refl _ | with_reducible refine Ext.ext ?_ _ | with_reducible refine Ext.alloc ?_ _ | refine Ext.drew ?_ | refine Ext.drewN ?_ _ | exact Ext.refl _)))) ((Sl.of_own wdE_len hv5).of wdE_len (by (show Ext _ _; repeat (first | with_reducible exact Ext.refl _ | with_reducible refine Ext.ext ?_ _ | with_reducible refine Ext.alloc ?_ _ | refine Ext.drew ?_ | refine Ext.drewN ?_ _ | exact Ext.refl _))))).mono ?_; rintro e w' ⟨rfl, r6, rfl⟩)
      have hOld := hHeld
      clear hHeld
      refine hK.out _ _ (⟨by simp [go_sem], by simp [go_sem]⟩) (fun hHeld => ?_)
      clear hOld hK K
      (try simp only [Act.put, List.setIfInBounds_toArray, List.set_cons_zero, List.set_cons_succ])
      refine take_only 5 (oi := ⟨_, _, _, _, _, _⟩) (by kernel_rfl) rfl (fun K hK => ?_)
      go_simp
      first
        | (go_at_call 9; refine (awake_any _).mono ?_; rintro e w' ⟨rfl, r4, rfl⟩)
        | (go_at_call 21; refine (words_any m _ _ hl100 (HM.out.of wdE_len (by (show Ext _ _; repeat (first | with_reducible exact Ext.refl _ | with_reducible refine Ext.ext ?_ _ | with_reducible refine Ext.alloc ?_ _ | refine Ext.drew ?_ | refine Ext.drewN ?_ _ | exact Ext.refl _))))).mono ?_; rintro e w' ⟨v5, rfl, ⟨r5, rfl⟩, hv5⟩)
        | (go_at_call 18; refine (is_any m m _ _ _ hl100 (HM2.out.of wdE_len (by (show Ext _ _; repeat (first | with_reducible exact Ext.refl _ | with_reducible refine Ext.ext ?_ _ | with_reducible refine Ext.alloc ?_ _ | refine Ext.drew ?_ | refine Ext.drewN ?_ _ | exact Ext.refl _)))) ((Sl.of_own wdE_len hv5).of wdE_len (by (show Ext _ _; repeat (first | with_reducible exact Ext.refl _ | with_reducible refine Ext.ext ?_ _ | with_reducible refine Ext.alloc ?_ _ | refine Ext.drew ?_ | refine Ext.drewN ?_ _ | exact Ext.refl _))))).mono ?_; rintro e w' ⟨rfl, r6, rfl⟩)
      have hOld := hHeld
      clear hHeld
      refine hK.out _ _ (⟨by simp [go_sem], by simp [go_sem]⟩) (fun hHeld => ?_)
      clear hOld hK K
      (try simp only [Act.put, List.setIfInBounds_toArray, List.set_cons_zero, List.set_cons_succ])
      refine take_met 6 (oi := ⟨_, _, _, _, _, _⟩) (v := ?_) (by kernel_rfl) rfl (by rfl) (fun _ _ _ h => h) (by assumption) ?_ ?_
      rotate_left 1
      · intro w hSw
        try dsimp only at hSw
        go_simp
        try with_reducible rfl
      (try simp only [Act.put, List.setIfInBounds_toArray, List.set_cons_zero, List.set_cons_succ])
      refine take_met 7 (oi := ⟨_, _, _, _, _, _⟩) (v := ?_) (by kernel_rfl) rfl (by rfl) (fun _ _ _ h => h) (by assumption) ?_ ?_
      rotate_left 1
      · intro w hSw
        try dsimp only at hSw
        go_simp
        try with_reducible rfl
      (try simp only [Act.put, List.setIfInBounds_toArray, List.set_cons_zero, List.set_cons_succ])
      refine wpAnyH_done (by kernel_rfl) ?_ _
      go_wp2_with fail
      go_ret
      exact ⟨by first | rfl | (rw [hmm]), HW.out.trans (by (show Ext _ _; repeat (first | with_reducible exact Ext.refl _ | with_reducible refine Ext.ext ?_ _ | with_reducible refine Ext.alloc ?_ _ | refine Ext.drew ?_ | refine Ext.drewN ?_ _ | exact Ext.refl _)))⟩
    · rw [q3] at hv2 ⊢
      have HM2 := hid hv2
      obtain ⟨a3, c3, rfl, _, _⟩ := hv2
      skip
      have hmm : eqB m m = true := decide_eq_true rfl
      clear q3
      go_wp2_with fail
      refine wp_region_held_drew (S := fun w' => w'.cell? ⟨W.heap.size, 0, none⟩ = some (.slice a1 m.length c1) ∧ w'.cell? ⟨W.heap.size + 1 + r3.new.size, 0, none⟩ = some (.slice a3 m.length c3)) (by kernel_rfl) (⟨by simp [go_sem], by simp [go_sem]⟩) (fun hHeld => ?_)
      refine take_only 0 (oi := ⟨_, _, _, _, _, _⟩) (by kernel_rfl) rfl (fun K hK => ?_)
      go_simp
      first
        | (go_at_call 9; refine (awake_any _).mono ?_; rintro e w' ⟨rfl, r4, rfl⟩)
        | (go_at_call 21; refine (words_any m _ _ hl100 (HM.out.of wdE_len (by (show Ext _ _; repeat (first | with_reducible exact Ext.refl _ | with_reducible refine Ext.ext ?_ _ | with_reducible refine Ext.alloc ?_ _ | refine Ext.drew ?_ | refine Ext.drewN ?_ _ | exact Ext.refl _))))).mono ?_; rintro e w' ⟨v5, rfl, ⟨r5, rfl⟩, hv5⟩)
        | (go_at_call 18; refine (is_any m m _ _ _ hl100 (HM2.out.of wdE_len (by (show Ext _ _; repeat (first | with_reducible exact Ext.refl _ | with_reducible refine Ext.ext ?_ _ | with_reducible refine Ext.alloc ?_ _ | refine Ext.drew ?_ | refine Ext.drewN ?_ _ | exact Ext.refl _)))) ((Sl.of_own wdE_len hv5).of wdE_len (by (show Ext _ _; repeat (first | with_reducible exact Ext.refl _ | with_reducible refine Ext.ext ?_ _ | with_reducible refine Ext.alloc ?_ _ | refine Ext.drew ?_ | refine Ext.drewN ?_ _ | exact Ext.refl _))))).mono ?_; rintro e w' ⟨rfl, r6, rfl⟩)
      have hOld := hHeld
      clear hHeld
      refine hK.out _ _ (⟨by simp [go_sem], by simp [go_sem]⟩) (fun hHeld => ?_)
      clear hOld hK K
      (try simp only [Act.put, List.setIfInBounds_toArray, List.set_cons_zero, List.set_cons_succ])
      refine take_met 1 (oi := ⟨_, _, _, _, _, _⟩) (v := ?_) (by kernel_rfl) rfl (by rfl) (fun _ _ _ h => h) (by assumption) ?_ ?_
      rotate_left 1
      · intro w hSw
        try dsimp only at hSw
        go_simp
        try with_reducible rfl
      (try simp only [Act.put, List.setIfInBounds_toArray, List.set_cons_zero, List.set_cons_succ])
      refine take_met 2 (oi := ⟨_, _, _, _, _, _⟩) (v := ?_) (by kernel_rfl) rfl (by rfl) (fun _ _ _ h => h) (by assumption) ?_ ?_
      rotate_left 1
      · intro w hSw
        try dsimp only at hSw
        go_simp
        try with_reducible rfl
      (try simp only [Act.put, List.setIfInBounds_toArray, List.set_cons_zero, List.set_cons_succ])
      refine take_met 3 (oi := ⟨_, _, _, _, _, _⟩) (v := ?_) (by kernel_rfl) rfl (by rfl) (fun _ _ _ h => h) (by assumption) ?_ ?_
      rotate_left 1
      · intro w hSw
        try dsimp only at hSw
        go_simp
        try with_reducible rfl
      (try simp only [Act.put, List.setIfInBounds_toArray, List.set_cons_zero, List.set_cons_succ])
      refine take_only 4 (oi := ⟨_, _, _, _, _, _⟩) (by kernel_rfl) rfl (fun K hK => ?_)
      go_simp
      first
        | (go_at_call 9; refine (awake_any _).mono ?_; rintro e w' ⟨rfl, r4, rfl⟩)
        | (go_at_call 21; refine (words_any m _ _ hl100 (HM.out.of wdE_len (by (show Ext _ _; repeat (first | with_reducible exact Ext.refl _ | with_reducible refine Ext.ext ?_ _ | with_reducible refine Ext.alloc ?_ _ | refine Ext.drew ?_ | refine Ext.drewN ?_ _ | exact Ext.refl _))))).mono ?_; rintro e w' ⟨v5, rfl, ⟨r5, rfl⟩, hv5⟩)
        | (go_at_call 18; refine (is_any m m _ _ _ hl100 (HM2.out.of wdE_len (by (show Ext _ _; repeat (first | with_reducible exact Ext.refl _ | with_reducible refine Ext.ext ?_ _ | with_reducible refine Ext.alloc ?_ _ | refine Ext.drew ?_ | refine Ext.drewN ?_ _ | exact Ext.refl _)))) ((Sl.of_own wdE_len hv5).of wdE_len (by (show Ext _ _; repeat (first | with_reducible exact Ext.refl _ | with_reducible refine Ext.ext ?_ _ | with_reducible refine Ext.alloc ?_ _ | refine Ext.drew ?_ | refine Ext.drewN ?_ _ | exact Ext.refl _))))).mono ?_; rintro e w' ⟨rfl, r6, rfl⟩)
      have hOld := hHeld
      clear hHeld
      refine hK.out _ _ (⟨by simp [go_sem], by simp [go_sem]⟩) (fun hHeld => ?_)
      clear hOld hK K
      (try simp only [Act.put, List.setIfInBounds_toArray, List.set_cons_zero, List.set_cons_succ])
      refine take_only 5 (oi := ⟨_, _, _, _, _, _⟩) (by kernel_rfl) rfl (fun K hK => ?_)
      go_simp
      first
        | (go_at_call 9; refine (awake_any _).mono ?_; rintro e w' ⟨rfl, r4, rfl⟩)
        | (go_at_call 21; refine (words_any m _ _ hl100 (HM.out.of wdE_len (by (show Ext _ _; repeat (first | with_reducible exact Ext.refl _ | with_reducible refine Ext.ext ?_ _ | with_reducible refine Ext.alloc ?_ _ | refine Ext.drew ?_ | refine Ext.drewN ?_ _ | exact Ext.refl _))))).mono ?_; rintro e w' ⟨v5, rfl, ⟨r5, rfl⟩, hv5⟩)
        | (go_at_call 18; refine (is_any m m _ _ _ hl100 (HM2.out.of wdE_len (by (show Ext _ _; repeat (first | with_reducible exact Ext.refl _ | with_reducible refine Ext.ext ?_ _ | with_reducible refine Ext.alloc ?_ _ | refine Ext.drew ?_ | refine Ext.drewN ?_ _ | exact Ext.refl _)))) ((Sl.of_own wdE_len hv5).of wdE_len (by (show Ext _ _; repeat (first | with_reducible exact Ext.refl _ | with_reducible refine Ext.ext ?_ _ | with_reducible refine Ext.alloc ?_ _ | refine Ext.drew ?_ | refine Ext.drewN ?_ _ | exact Ext.refl _))))).mono ?_; rintro e w' ⟨rfl, r6, rfl⟩)
      have hOld := hHeld
      clear hHeld
      refine hK.out _ _ (⟨by simp [go_sem], by simp [go_sem]⟩) (fun hHeld => ?_)
      clear hOld hK K
      (try simp only [Act.put, List.setIfInBounds_toArray, List.set_cons_zero, List.set_cons_succ])
      refine take_met 6 (oi := ⟨_, _, _, _, _, _⟩) (v := ?_) (by kernel_rfl) rfl (by rfl) (fun _ _ _ h => h) (by assumption) ?_ ?_
      rotate_left 1
      · intro w hSw
        try dsimp only at hSw
        go_simp
        try with_reducible rfl
      (try simp only [Act.put, List.setIfInBounds_toArray, List.set_cons_zero, List.set_cons_succ])
      refine take_met 7 (oi := ⟨_, _, _, _, _, _⟩) (v := ?_) (by kernel_rfl) rfl (by rfl) (fun _ _ _ h => h) (by assumption) ?_ ?_
      rotate_left 1
      · intro w hSw
        try dsimp only at hSw
        go_simp
        try with_reducible rfl
      (try simp only [Act.put, List.setIfInBounds_toArray, List.set_cons_zero, List.set_cons_succ])
      refine wpAnyH_done (by kernel_rfl) ?_ _
      go_wp2_with fail
      go_ret
      exact ⟨by first | rfl | (rw [hmm]), HW.out.trans (by (show Ext _ _; repeat (first | with_reducible exact Ext.refl _ | with_reducible refine Ext.ext ?_ _ | with_reducible refine Ext.alloc ?_ _ | refine Ext.drew ?_ | refine Ext.drewN ?_ _ | exact Ext.refl _)))⟩

end Go.Proofs.Ytdodipejckigoaa
