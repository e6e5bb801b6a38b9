/- The walk of the statement DetectEntries. -/
import Derived.Test.YtlijgheghodfeaaDoorDetAwk
import Derived.Test.YtlijgheghodfeaaDoorDescH
namespace Go.Proofs.YtlijgheghodfeaaDoor
set_option linter.unusedSimpArgs false
set_option linter.unusedVariables false
open Go.RowKit

set_option maxRecDepth 100000 in
set_option maxHeartbeats 4000000 in
theorem dete_any (t : Int) (ht : -9223372036854775808 ≤ t ∧ t ≤ 9223372036854775807) (wv : Value) (was : List Wd) (n err val : Int) (hn : -9223372036854775808 ≤ n ∧ n ≤ 9223372036854775807) (he : -32768 ≤ err ∧ err ≤ 32767)
    (hv : -9223372036854775808 ≤ val ∧ val ≤ 9223372036854775807) (w : World) (hs : Szs w) (hw : Sl w 3 wdE wv was) (hok : ∀ a ∈ was, WdOk a) :
    Calls Tryd.prog 3 #[.int .i64 t, wv, .agg #[.int .i64 n, .int .i64 val, .int .i16 err]] w fun e w' => e = .returned (.bool true) ∧ ∃ r, w' = ext w r := by
  have HS := hid hs
  have HW := hid hw
  have HO := hid hok
  have HN := hid hn
  have HEr := hid he
  have HVl := hid hv
  obtain ⟨a, cp, rfl, _, _⟩ := hw
  have hec : IntKind.i64.wrap err = err := IntWalk.i64_in _ (by omega)
  have hrec := rec24 t ht.1 ht.2
  obtain ⟨p, hp⟩ : ∃ p, p = recN 3 8 0 t := ⟨_, rfl⟩
  rw [← hp] at hrec
  have HP := hid hp.symm
  have HP2 := hid (show atN 3 8 0 2 (wrap64 (t - 1)) 0 = p from hp.symm)
  have HLw := hid (dent_law 3 8 0 t check24 was n err val)
  rw [← hp] at HLw
  clear hs hok hn he hv hp ht
  by_cases h20 : (20 : Int) < (was.length : Int)
  · go_enter Tryd.func3, Tryd.ntmps3
    go_wp2_with fail
    refine (awake24_any _ (HS.out.of (by (show Ext _ _; repeat (first | with_reducible (refine Hid.out ?_; assumption) | with_reducible exact Ext.refl _ | with_reducible refine Ext.ext ?_ _ | with_reducible refine Ext.alloc ?_ _ | refine Ext.drew ?_ | refine Ext.drewN ?_ _ | exact Ext.refl _))))).mono ?_
    rintro e w' ⟨rfl, r1, rfl⟩
    go_wp2_with fail
    go_ret
    exact ⟨rfl, by (show Ext _ _; repeat (first | with_reducible (refine Hid.out ?_; assumption) | with_reducible exact Ext.refl _ | with_reducible refine Ext.ext ?_ _ | with_reducible refine Ext.alloc ?_ _ | refine Ext.drew ?_ | refine Ext.drewN ?_ _ | exact Ext.refl _))⟩
  go_enter Tryd.func3, Tryd.ntmps3
  go_wp2_with fail
  refine (awake24_any _ (HS.out.of (by (show Ext _ _; repeat (first | with_reducible (refine Hid.out ?_; assumption) | with_reducible exact Ext.refl _ | with_reducible refine Ext.ext ?_ _ | with_reducible refine Ext.alloc ?_ _ | refine Ext.drew ?_ | refine Ext.drewN ?_ _ | exact Ext.refl _))))).mono ?_
  rintro e w' ⟨rfl, r1, rfl⟩
  go_wp2_with fail
  refine (plan24_any _).mono ?_
  rintro e w' ⟨rfl, r2, rfl⟩
  go_wp2_with fail
  refine (ats_any 3 8 0 t _ (HS.out.of (by (show Ext _ _; repeat (first | with_reducible (refine Hid.out ?_; assumption) | with_reducible exact Ext.refl _ | with_reducible refine Ext.ext ?_ _ | with_reducible refine Ext.alloc ?_ _ | refine Ext.drew ?_ | refine Ext.drewN ?_ _ | exact Ext.refl _))))).mono ?_
  rintro e w' ⟨⟨r3, rfl⟩, hy⟩
  rw [HP.out] at hy
  obtain ⟨va, hva⟩ : ∃ va, e = .returned va := by rcases hy with ⟨_, rfl⟩ | ⟨_, g, rfl, _⟩ <;> exact ⟨_, rfl⟩
  subst hva
  generalize hU : ext _ r3 = U at *
  have HEU := hid (show Ext w U by rw [← hU]; (show Ext _ _; repeat (first | with_reducible (refine Hid.out ?_; assumption) | with_reducible exact Ext.refl _ | with_reducible refine Ext.ext ?_ _ | with_reducible refine Ext.alloc ?_ _ | refine Ext.drew ?_ | refine Ext.drewN ?_ _ | exact Ext.refl _)))
  have HB5 := hid (show Blk U w.heap.size [.int .i64 n, .int .i64 val, .int .i16 err] by rw [← hU]; (show Blk _ _ _; repeat (first | with_reducible (refine Hid.out ?_; assumption) | with_reducible refine Blk.drew ?_ | with_reducible refine Blk.ext ?_ _ | (with_reducible refine Blk.new _ _ rfl ?_; first | with_reducible rfl | (simp; done)) | with_reducible refine Blk.alloc ?_ _ | with_reducible assumption | with_reducible apply Blk.setE | (with_reducible refine Blk.other' ?_ ?_; first | omega | (simp; omega)) | (show List.set _ _ _ = _; exact rfl) | (show _ < List.length _; simp; done))))
  clear hU
  have hcs : (1 ≤ t ∧ t ≤ 3 ∧ 0 ≤ p ∧ p ≤ 30000) ∨ (1 ≤ t ∧ ¬ t ≤ 3 ∧ p = -1) ∨ (¬ 1 ≤ t ∧ p = -1) := by
    by_cases hin : 1 ≤ t ∧ t ≤ 3
    · rw [if_pos hin] at hrec; omega
    · rw [if_neg hin] at hrec; omega
  clear hrec
  rcases hcs with ⟨h1, h2, hp0, hp1⟩ | ⟨h1, h2, hpe⟩ | ⟨h1, hpe⟩
  rcases hy with ⟨h, _⟩ | ⟨_, g, hva, hbk⟩
  · omega
  simp only [Ending.returned.injEq] at hva
  subst hva
  obtain ⟨q0, q1, q2⟩ := hbk.three
  have q4 := hbk.1
  have hw1 : IntKind.i64.wrap (p + 1) = p + 1 := IntWalk.i64_in _ (by omega)
  have hw2 : IntKind.i64.wrap (p + 2) = p + 2 := IntWalk.i64_in _ (by omega)
  have hp9 : p ≤ 30000 := hp1
  clear hbk
  go_wp2_with fail
  refine (plan24_any _).mono ?_
  rintro e w' ⟨rfl, r4, rfl⟩
  go_wp2_with fail
  refine (record_any 3 8 0 t _ (HS.out.of (HEU.out.trans (by (show Ext _ _; repeat (first | with_reducible (refine Hid.out ?_; assumption) | with_reducible exact Ext.refl _ | with_reducible refine Ext.ext ?_ _ | with_reducible refine Ext.alloc ?_ _ | refine Ext.drew ?_ | refine Ext.drewN ?_ _ | exact Ext.refl _)))))).mono ?_
  rintro e w' ⟨rfl, r5, rfl⟩
  rw [HP2.out]
  go_upto_region 13 with fail
  generalize hV : ext _ r5 = V
  have HEV := hid (show Ext w V by rw [← hV]; exact HEU.out.trans (by (show Ext _ _; repeat (first | with_reducible (refine Hid.out ?_; assumption) | with_reducible exact Ext.refl _ | with_reducible refine Ext.ext ?_ _ | with_reducible refine Ext.alloc ?_ _ | refine Ext.drew ?_ | refine Ext.drewN ?_ _ | exact Ext.refl _))))
  have HBV := hid (show Blk V w.heap.size [.int .i64 n, .int .i64 val, .int .i16 err] by rw [← hV]; exact HB5.out.of (by (show Ext _ _; repeat (first | with_reducible (refine Hid.out ?_; assumption) | with_reducible exact Ext.refl _ | with_reducible refine Ext.ext ?_ _ | with_reducible refine Ext.alloc ?_ _ | refine Ext.drew ?_ | refine Ext.drewN ?_ _ | exact Ext.refl _))))
  clear hV q0 q1 q2 q4 hw1 hw2 hp0 hp1
  rotate_left 1
  replace hy : Ending.returned va = .returned (.slice none 0 0) := by
    rcases hy with ⟨_, hva⟩ | ⟨h, _⟩
    · exact hva
    · omega
  simp only [Ending.returned.injEq] at hy
  subst hy
  have hp9 : p ≤ 30000 := by omega
  subst hpe
  go_upto_region 11 with fail
  go_simp
  go_upto_region 13 with fail
  obtain ⟨V, rfl⟩ : ∃ V : World, V = U := ⟨_, rfl⟩
  have HEV := HEU
  have HBV := HB5
  rotate_left 1
  replace hy : Ending.returned va = .returned (.slice none 0 0) := by
    rcases hy with ⟨_, hva⟩ | ⟨h, _⟩
    · exact hva
    · omega
  simp only [Ending.returned.injEq] at hy
  subst hy
  have hp9 : p ≤ 30000 := by omega
  subst hpe
  go_upto_region 11 with fail
  go_simp
  go_upto_region 13 with fail
  obtain ⟨V, rfl⟩ : ∃ V : World, V = U := ⟨_, rfl⟩
  have HEV := HEU
  have HBV := HB5
  rotate_left 1
  all_goals
    clear HEU HB5
    refine wp_region_held_drew (S := fun w' => (w'.cell? ⟨w.heap.size, 0, none⟩ = some (.int .i64 n) ∧ w'.cell? ⟨w.heap.size, 1, none⟩ = some (.int .i64 val) ∧ w'.cell? ⟨w.heap.size, 2, none⟩ = some (.int .i16 err))) (by kernel_rfl) (by exact (HBV.out.of (show Ext V _ by (show Ext _ _; repeat (first | with_reducible (refine Hid.out ?_; assumption) | with_reducible exact Ext.refl _ | with_reducible refine Ext.ext ?_ _ | with_reducible refine Ext.alloc ?_ _ | with_reducible refine Ext.drew ?_ | with_reducible refine Ext.setCell ?_ (by (try dsimp only); first | omega | (simp; done) | (simp; omega)) _)))).three) (fun hHeld => ?_)
    refine take_met 1 (oi := ⟨_, _, _, _, _, _⟩) (v := ?_) (by kernel_rfl) rfl (by rfl) (fun _ _ _ h => h) (by assumption) ?_ ?_
    rotate_left 1
    · intro w hSw
      try dsimp only at hSw
      go_simp
      try with_reducible rfl
    (try simp only [Act.put, List.setIfInBounds_toArray, List.set_cons_zero, List.set_cons_succ])
    refine take_met 2 (oi := ⟨_, _, _, _, _, _⟩) (v := ?_) (by kernel_rfl) rfl (by rfl) (fun _ _ _ h => h) (by assumption) ?_ ?_
    rotate_left 1
    · intro w hSw
      try dsimp only at hSw
      go_simp
      try with_reducible rfl
    (try simp only [Act.put, List.setIfInBounds_toArray, List.set_cons_zero, List.set_cons_succ])
    refine take_met 3 (oi := ⟨_, _, _, _, _, _⟩) (v := ?_) (by kernel_rfl) rfl (by rfl) (fun _ _ _ h => h) (by assumption) ?_ ?_
    rotate_left 1
    · intro w hSw
      try dsimp only at hSw
      go_simp
      try with_reducible rfl
    (try simp only [Act.put, List.setIfInBounds_toArray, List.set_cons_zero, List.set_cons_succ])
    refine take_met 4 (oi := ⟨_, _, _, _, _, _⟩) (v := ?_) (by kernel_rfl) rfl (by rfl) (fun _ _ _ h => h) (by assumption) ?_ ?_
    rotate_left 1
    · intro w hSw
      try dsimp only at hSw
      go_simp
      try with_reducible rfl
    (try simp only [Act.put, List.setIfInBounds_toArray, List.set_cons_zero, List.set_cons_succ])
    refine take_met 5 (oi := ⟨_, _, _, _, _, _⟩) (v := ?_) (by kernel_rfl) rfl (by rfl) (fun _ _ _ h => h) (by assumption) ?_ ?_
    rotate_left 1
    · intro w hSw
      try dsimp only at hSw
      go_simp
      try with_reducible rfl
    (try simp only [Act.put, List.setIfInBounds_toArray, List.set_cons_zero, List.set_cons_succ])
    refine take_met 6 (oi := ⟨_, _, _, _, _, _⟩) (v := ?_) (by kernel_rfl) rfl (by rfl) (fun _ _ _ h => h) (by assumption) ?_ ?_
    rotate_left 1
    · intro w hSw
      try dsimp only at hSw
      go_simp
      try with_reducible rfl
    (try simp only [Act.put, List.setIfInBounds_toArray, List.set_cons_zero, List.set_cons_succ])
    refine take_met 7 (oi := ⟨_, _, _, _, _, _⟩) (v := ?_) (by kernel_rfl) rfl (by rfl) (fun _ _ _ h => h) (by assumption) ?_ ?_
    rotate_left 1
    · intro w hSw
      try dsimp only at hSw
      go_simp
      try with_reducible rfl
    (try simp only [Act.put, List.setIfInBounds_toArray, List.set_cons_zero, List.set_cons_succ])
    refine take_met 8 (oi := ⟨_, _, _, _, _, _⟩) (v := ?_) (by kernel_rfl) rfl (by rfl) (fun _ _ _ h => h) (by assumption) ?_ ?_
    rotate_left 1
    · intro w hSw
      try dsimp only at hSw
      go_simp
      try with_reducible rfl
    (try simp only [Act.put, List.setIfInBounds_toArray, List.set_cons_zero, List.set_cons_succ])
    refine take_met 9 (oi := ⟨_, _, _, _, _, _⟩) (v := ?_) (by kernel_rfl) rfl (by rfl) (fun _ _ _ h => h) (by assumption) ?_ ?_
    rotate_left 1
    · intro w hSw
      try dsimp only at hSw
      go_simp
      try with_reducible rfl
    (try simp only [Act.put, List.setIfInBounds_toArray, List.set_cons_zero, List.set_cons_succ])
    refine take_met 10 (oi := ⟨_, _, _, _, _, _⟩) (v := ?_) (by kernel_rfl) rfl (by rfl) (fun _ _ _ h => h) (by assumption) ?_ ?_
    rotate_left 1
    · intro w hSw
      try dsimp only at hSw
      go_simp
      try with_reducible rfl
    (try simp only [Act.put, List.setIfInBounds_toArray, List.set_cons_zero, List.set_cons_succ])
    refine take_only 0 (oi := ⟨_, _, _, _, _, _⟩) (by kernel_rfl) rfl (fun K hK => ?_)
    go_simp
    first
      | (go_at_call 11; refine (plan24_any _).mono ?_; rintro e w' ⟨rfl, r6, rfl⟩)
    have hOld := hHeld
    clear hHeld
    refine hK.out _ _ (by exact (HBV.out.of (show Ext V _ by (show Ext _ _; repeat (first | with_reducible (refine Hid.out ?_; assumption) | with_reducible exact Ext.refl _ | with_reducible refine Ext.ext ?_ _ | with_reducible refine Ext.alloc ?_ _ | with_reducible refine Ext.drew ?_ | with_reducible refine Ext.setCell ?_ (by (try dsimp only); first | omega | (simp; done) | (simp; omega)) _)))).three) (fun hHeld => ?_)
    clear hOld hK K
    (try simp only [Act.put, List.setIfInBounds_toArray, List.set_cons_zero, List.set_cons_succ])
    refine take_only 11 (oi := ⟨_, _, _, _, _, _⟩) (by kernel_rfl) rfl (fun K hK => ?_)
    go_simp
    first
      | (go_at_call 13; refine (dent_any 3 8 0 t was _ HO.out n err val HN.out (by have := HEr.out; omega) HVl.out _ (HS.out.of (HEV.out.trans (by (show Ext _ _; repeat (first | with_reducible (refine Hid.out ?_; assumption) | with_reducible exact Ext.refl _ | with_reducible refine Ext.ext ?_ _ | with_reducible refine Ext.alloc ?_ _ | refine Ext.drew ?_ | refine Ext.drewN ?_ _ | exact Ext.refl _))))) (HW.out.of wdE_len (HEV.out.trans (by (show Ext _ _; repeat (first | with_reducible (refine Hid.out ?_; assumption) | with_reducible exact Ext.refl _ | with_reducible refine Ext.ext ?_ _ | with_reducible refine Ext.alloc ?_ _ | refine Ext.drew ?_ | refine Ext.drewN ?_ _ | exact Ext.refl _)))))).mono ?_; rintro y w' ⟨v6, rfl, ⟨r7, rfl⟩, hv6⟩; rw [HLw.out] at hv6 ⊢)
    have hOld := hHeld
    clear hHeld
    refine hK.out _ _ (by exact (HBV.out.of (show Ext V _ by (show Ext _ _; repeat (first | with_reducible (refine Hid.out ?_; assumption) | with_reducible exact Ext.refl _ | with_reducible refine Ext.ext ?_ _ | with_reducible refine Ext.alloc ?_ _ | with_reducible refine Ext.drew ?_ | with_reducible refine Ext.setCell ?_ (by (try dsimp only); first | omega | (simp; done) | (simp; omega)) _)))).three) (fun hHeld => ?_)
    clear hOld hK K
    (try simp only [Act.put, List.setIfInBounds_toArray, List.set_cons_zero, List.set_cons_succ])
    refine take_met 12 (oi := ⟨_, _, _, _, _, _⟩) (v := ?_) (by kernel_rfl) rfl (by rfl) (fun _ _ _ h => h) (by assumption) ?_ ?_
    rotate_left 1
    · intro w hSw
      try dsimp only at hSw
      go_simp
      try with_reducible rfl
    (try simp only [Act.put, List.setIfInBounds_toArray, List.set_cons_zero, List.set_cons_succ])
    refine take_met 13 (oi := ⟨_, _, _, _, _, _⟩) (v := ?_) (by kernel_rfl) rfl (by rfl) (fun _ _ _ h => h) (by assumption) ?_ ?_
    rotate_left 1
    · intro w hSw
      try dsimp only at hSw
      go_simp
      try with_reducible rfl
    (try simp only [Act.put, List.setIfInBounds_toArray, List.set_cons_zero, List.set_cons_succ])
    refine take_met 14 (oi := ⟨_, _, _, _, _, _⟩) (v := ?_) (by kernel_rfl) rfl (by rfl) (fun _ _ _ h => h) (by assumption) ?_ ?_
    rotate_left 1
    · intro w hSw
      try dsimp only at hSw
      go_simp
      try with_reducible rfl
    (try simp only [Act.put, List.setIfInBounds_toArray, List.set_cons_zero, List.set_cons_succ])
    refine take_met 15 (oi := ⟨_, _, _, _, _, _⟩) (v := ?_) (by kernel_rfl) rfl (by rfl) (fun _ _ _ h => h) (by assumption) ?_ ?_
    rotate_left 1
    · intro w hSw
      try dsimp only at hSw
      go_simp
      try with_reducible rfl
    (try simp only [Act.put, List.setIfInBounds_toArray, List.set_cons_zero, List.set_cons_succ])
    refine take_met 16 (oi := ⟨_, _, _, _, _, _⟩) (v := ?_) (by kernel_rfl) rfl (by rfl) (fun _ _ _ h => h) (by assumption) ?_ ?_
    rotate_left 1
    · intro w hSw
      try dsimp only at hSw
      go_simp
      try with_reducible rfl
    (try simp only [Act.put, List.setIfInBounds_toArray, List.set_cons_zero, List.set_cons_succ])
    refine wpAnyH_done (by kernel_rfl) ?_ _
    have HRd := hid (rdent_any _ hp9 was (.slice a was.length cp) HO.out n err val HN.out (by have := HEr.out; omega) HVl.out)
    generalize hq : rdentN _ was n err val = q at *
    obtain ⟨l, ec⟩ := q
    generalize hY : ext _ r7 = Y at *
    have HEY := hid (show Ext V Y by rw [← hY]; (show Ext _ _; repeat (first | with_reducible (refine Hid.out ?_; assumption) | with_reducible exact Ext.refl _ | with_reducible refine Ext.ext ?_ _ | with_reducible refine Ext.alloc ?_ _ | refine Ext.drew ?_ | refine Ext.drewN ?_ _ | exact Ext.refl _)))
    have HEYw := hid (HEV.out.trans HEY.out)
    have HB5Y := hid (HBV.out.of HEY.out)
    have hv6' := Sl.of_own enE_len hv6
    have HV6 := hid hv6'
    obtain ⟨a6, c6, rfl, _, _⟩ := hv6'
    dsimp only
    obtain ⟨d0, d1, d2⟩ := HB5Y.out.three
    have d4 := HB5Y.out.1
    clear hY hv6 hq
    go_wp2_with fail
    refine (HRd.out _ (HW.out.of wdE_len (HEYw.out.trans (by (show Ext _ _; repeat (first | with_reducible (refine Hid.out ?_; assumption) | with_reducible exact Ext.refl _ | with_reducible refine Ext.ext ?_ _ | with_reducible refine Ext.alloc ?_ _ | refine Ext.drew ?_ | refine Ext.drewN ?_ _ | exact Ext.refl _)))))).mono ?_
    rintro y w' ⟨v8, rfl, ⟨r8, rfl⟩, hv8⟩
    have hv8' := Sl.of_own enE_len hv8
    have HV8 := hid hv8'
    obtain ⟨a8, c8, rfl, _, _⟩ := hv8'
    dsimp only
    clear hv8
    go_wp2_with fail
    generalize hZ : ext _ r8 = Z
    have HEZ := hid (show Ext Y Z by rw [← hZ]; (show Ext _ _; repeat (first | with_reducible (refine Hid.out ?_; assumption) | with_reducible exact Ext.refl _ | with_reducible refine Ext.ext ?_ _ | with_reducible refine Ext.alloc ?_ _ | refine Ext.drew ?_ | refine Ext.drewN ?_ _ | exact Ext.refl _)))
    have HEZw := hid (HEYw.out.trans HEZ.out)
    have HL6 := hid (HV6.out.of enE_len HEZ.out)
    have HL8 := hid (HV8.out.of enE_len (show Ext _ Z by rw [← hZ]; (show Ext _ _; repeat (first | with_reducible (refine Hid.out ?_; assumption) | with_reducible exact Ext.refl _ | with_reducible refine Ext.ext ?_ _ | with_reducible refine Ext.alloc ?_ _ | refine Ext.drew ?_ | refine Ext.drewN ?_ _ | exact Ext.refl _))))
    clear hZ d0 d1 d2 d4
    have hna := neq_entry
    have hga := eq_guard_entry
    go_loopw [13] (fun i wr => ∃ j : Nat, j ≤ l.length ∧ i = .int .i64 j ∧ Hid (Ext Z wr)) (fun i _ => l.length - (intOf i).toNat)
    case atStart => exact ⟨0, by omega, rfl, hid (Ext.refl _)⟩
    case round =>
      obtain ⟨j, hj, rfl, HX⟩ := hrel
      by_cases hjl : j < l.length
      · have hd : decide (j < l.length) = true := decide_eq_true hjl
        have hx := List.getElem?_eq_getElem hjl
        generalize l[j] = x at hx
        obtain ⟨e1, b1, o1, hab1, hbl1, hcs1⟩ := Sl.at (HL6.out.of enE_len HX.out) hx
        obtain ⟨e2, b2, o2, hab2, hbl2, hcs2⟩ := Sl.at (HL8.out.of enE_len HX.out) hx
        subst hab1 hab2
        obtain ⟨x0, x1, x2, x3, x4, x5⟩ := x
        have p0 := hcs1 0 (by omega)
        have p1 := hcs1 1 (by omega)
        have p2 := hcs1 2 (by omega)
        have p3 := hcs1 3 (by omega)
        have p4 := hcs1 4 (by omega)
        have p5 := hcs1 5 (by omega)
        have q0 := hcs2 0 (by omega)
        have q1 := hcs2 1 (by omega)
        have q2 := hcs2 2 (by omega)
        have q3 := hcs2 3 (by omega)
        have q4 := hcs2 4 (by omega)
        have q5 := hcs2 5 (by omega)
        simp [enE] at p0 p1 p2 p3 p4 p5 q0 q1 q2 q3 q4 q5
        have hn1 := hna ⟨x0, x1, x2, x3, x4, x5⟩ ⟨x0, x1, x2, x3, x4, x5⟩
        rw [(enB_eq ⟨x0, x1, x2, x3, x4, x5⟩ ⟨x0, x1, x2, x3, x4, x5⟩).2 rfl] at hn1
        dsimp only at hn1
        have hjj : (j : Int) < (l.length : Int) := by omega
        clear hcs1 hcs2 e1 e2 hx
        go_wp2_with fail
        refine region_ext (by kernel_rfl) (by kernel_rfl) ?_
        repeat (go_big_quiet_step (fail))
        refine wpQuiet_nil ?_
        rintro _ ⟨r9, rfl⟩
        go_wp2_with fail
        go_roundw
        case rel => exact ⟨j + 1, by omega, by go_num, hid (HX.out.trans (by (show Ext _ _; repeat (first | with_reducible (refine Hid.out ?_; assumption) | with_reducible exact Ext.refl _ | with_reducible refine Ext.ext ?_ _ | with_reducible refine Ext.alloc ?_ _ | refine Ext.drew ?_ | refine Ext.drewN ?_ _ | exact Ext.refl _))))⟩
        case measure => simp [intOf]; omega
      · have hd : decide (j < l.length) = false := decide_eq_false hjl
        obtain rfl : j = l.length := by omega
        go_wp2_with fail
        go_ret
        exact ⟨rfl, HEZw.out.trans (HX.out.trans (by (show Ext _ _; repeat (first | with_reducible (refine Hid.out ?_; assumption) | with_reducible exact Ext.refl _ | with_reducible refine Ext.ext ?_ _ | with_reducible refine Ext.alloc ?_ _ | refine Ext.drew ?_ | refine Ext.drewN ?_ _ | exact Ext.refl _))))⟩

end Go.Proofs.YtlijgheghodfeaaDoor
