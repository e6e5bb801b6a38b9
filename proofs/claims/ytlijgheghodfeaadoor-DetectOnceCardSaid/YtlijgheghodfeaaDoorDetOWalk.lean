/- The walk of the statement DetectOnce. -/
import Derived.Test.YtlijgheghodfeaaDoorDetL
import Derived.Test.YtlijgheghodfeaaDoorArgsD
namespace Go.Proofs.YtlijgheghodfeaaDoor
set_option linter.unusedSimpArgs false
set_option linter.unusedVariables false
open Go.RowKit

set_option maxRecDepth 100000 in
set_option maxHeartbeats 4000000 in
theorem deto_any (t : Int) (ht : 0 ≤ t ∧ t ≤ 255) (x y : Int × Int × Int) (hx : OpOk x) (hy : OpOk y) (w : World) (hs : Szs w) :
    Calls Tryd.prog 7 #[.int .u8 t, .agg #[.int .i64 x.1, .int .i64 x.2.1, .int .i16 x.2.2], .agg #[.int .i64 y.1, .int .i64 y.2.1, .int .i16 y.2.2]] w fun e w' => e = .returned (.bool true) ∧ ∃ r, w' = ext w r := by
  have HS := hid hs
  have hmk : ∀ w : World, (Instr.makeSlice 22 (.int .i64 3) (.int .i64 3)).run Tryd.prog w = .ok (.slice (some ⟨w.heap.size, 0, none⟩) 3 3) (w.alloc (.cells (madeCells #[.int .i64 0, .int .u32 0, .int .u32 0] (3 * 3)) 44)) := fun w => mk_words 3 (by omega) w
  obtain ⟨n1, v1, e1⟩ := x
  obtain ⟨n2, v2, e2⟩ := y
  obtain ⟨hn1, hv1, he1⟩ := hx
  obtain ⟨hn2, hv2, he2⟩ := hy
  dsimp only at hn1 hv1 he1 hn2 hv2 he2 ⊢
  have HN1 := hid hn1
  have HV1 := hid hv1
  have HN2 := hid hn2
  have HV2 := hid hv2
  have hc1 : IntKind.i64.wrap e1 = e1 := IntWalk.i64_in _ (by omega)
  have hc2 : IntKind.i64.wrap e2 = e2 := IntWalk.i64_in _ (by omega)
  obtain ⟨q, hq⟩ := Int.eq_ofNat_of_zero_le (Int.emod_nonneg t (show (3 : Int) ≠ 0 by omega))
  have hq3 : q < 3 := by have := Int.emod_lt_of_pos t (show (0 : Int) < 3 by omega); omega
  have htm : t.tmod 3 = (q : Int) := by rw [Int.tmod_eq_emod_of_nonneg ht.1]; exact hq
  have hwq : IntKind.i64.wrap (q : Int) = (q : Int) := IntWalk.i64_in _ (by omega)
  have hwk : IntKind.i64.wrap ((q : Int) + 1) = (q : Int) + 1 := IntWalk.i64_in _ (by omega)
  have hrec : recN 3 8 0 ((q : Int) + 1) = (32 + q * 8 : Nat) := by
    rw [rec24 _ (by omega) (by omega), if_pos (by omega)]; omega
  obtain ⟨p, hp⟩ : ∃ p, p = 32 + q * 8 := ⟨_, rfl⟩
  rw [← hp] at hrec
  have hpb : p + 3 ≤ 376 := by omega
  have HP := hid hrec
  have HP2 := hid (show atN 3 8 0 2 (wrap64 ((q : Int) + 1 - 1)) 0 = p from hrec)
  obtain ⟨z0, z1, z2⟩ := new24_rec q hq3
  rw [← hp] at z0 z1 z2
  have HQ3 := hid hq3
  clear hs hn1 hv1 hn2 hv2 hrec hq ht
  by_cases hearly : n1 < 1 ∨ e1 < 0 ∨ 255 < e1 ∨ e2 < 0 ∨ 255 < e2
  · have hcs : n1 < 1 ∨ (¬ n1 < 1 ∧ e1 < 0) ∨ (¬ n1 < 1 ∧ ¬ e1 < 0 ∧ 255 < e1) ∨ (¬ n1 < 1 ∧ ¬ e1 < 0 ∧ ¬ 255 < e1 ∧ e2 < 0) ∨ (¬ n1 < 1 ∧ ¬ e1 < 0 ∧ ¬ 255 < e1 ∧ ¬ e2 < 0 ∧ 255 < e2) := by omega
    clear hearly z0 z1 z2
    rcases hcs with h1 | ⟨h1, h2⟩ | ⟨h1, h2, h3⟩ | ⟨h1, h2, h3, h4⟩ | ⟨h1, h2, h3, h4, h5⟩
    all_goals
      go_enter Tryd.func7, Tryd.ntmps7
      go_wp2_with fail
      refine (awake24_any _ (HS.out.of (by (show Ext _ _; repeat (first | with_reducible (refine Hid.out ?_; assumption) | with_reducible exact Ext.refl _ | with_reducible refine Ext.ext ?_ _ | with_reducible refine Ext.alloc ?_ _ | refine Ext.drew ?_ | refine Ext.drewN ?_ _ | exact Ext.refl _))))).mono ?_
      rintro e w' ⟨rfl, r1, rfl⟩
      go_wp2_with fail
      go_ret
      exact ⟨rfl, by (show Ext _ _; repeat (first | with_reducible (refine Hid.out ?_; assumption) | with_reducible exact Ext.refl _ | with_reducible refine Ext.ext ?_ _ | with_reducible refine Ext.alloc ?_ _ | refine Ext.drew ?_ | refine Ext.drewN ?_ _ | exact Ext.refl _))⟩
  have h1 : ¬ n1 < 1 := by omega
  have h2 : ¬ e1 < 0 := by omega
  have h3 : ¬ 255 < e1 := by omega
  have h4 : ¬ e2 < 0 := by omega
  have h5 : ¬ 255 < e2 := by omega
  clear hearly
  -- the plain run
  obtain ⟨L0, hL0⟩ : ∃ L, L = newL (firstL 3 8 0) := ⟨_, rfl⟩
  have hl0 : L0.length = 376 := by rw [hL0]; exact new24_len
  rw [← hL0] at z0 z1 z2
  have HD1 := hid (show dentN 3 8 0 ((q : Int) + 1) (List.replicate 3 (0, 0, 0)) n1 e1 v1 = (recE p (0, 0, 0) (0, 0, 0) (0, 0, 0) n1 e1 v1, 0) from dent_good check24 HP.out (by omega) (by omega) (by omega) ⟨by omega, by omega⟩ (by dsimp only; omega) rfl rfl rfl (by decide) (by decide) (by decide))
  have HS1 := hid (show swapN L0 (recE p (0, 0, 0) (0, 0, 0) (0, 0, 0) n1 e1 v1) = (rec3 L0 p (n1, 1, 0) (v1, 1, 0) (e1, 1, 0), true, 0) from rec_swap (by omega) (by omega) z0 z1 z2 rfl rfl rfl (by decide) (by decide) (by decide))
  obtain ⟨L1, hL1⟩ : ∃ L, L = rec3 L0 p (n1, 1, 0) (v1, 1, 0) (e1, 1, 0) := ⟨_, rfl⟩
  rw [← hL1] at HS1
  have hl1 : L1.length = 376 := by rw [hL1, rec3_len]; exact hl0
  have g0 : L1[p]? = some (n1, 1, 0) := by rw [hL1, rec3_get _ _ _ _ _ (by omega), if_pos rfl]
  have g1 : L1[p + 1]? = some (v1, 1, 0) := by rw [hL1, rec3_get _ _ _ _ _ (by omega), if_neg (by omega), if_pos rfl]
  have g2 : L1[p + 2]? = some (e1, 1, 0) := by rw [hL1, rec3_get _ _ _ _ _ (by omega), if_neg (by omega), if_neg (by omega), if_pos rfl]
  have HLen0 := hid hl0
  have HLen1 := hid hl1
  have HL0 := hid hL0.symm
  have HAt := hid (show ∀ j : Nat, ∀ u : Int, [n1, v1, e1][j]? = some u → atW L1 ((p : Int) + j) = ((u, 1, 0), true) by
    intro j u hu
    match j, hu with
    | 0, hu => cases hu; simpa using atW_some g0
    | 1, hu => cases hu; exact atW_some (q := p + 1) g1
    | 2, hu => cases hu; exact atW_some (q := p + 2) g2)
  have HG0 := hid g0
  have HG1 := hid g1
  have HG2 := hid g2
  have HEO := hid (fun e he => recE_ok (p := p) ⟨by omega, by omega⟩ (x := (0, 0, 0)) (y := (0, 0, 0)) (z := (0, 0, 0)) (wdOk000 _ (by simp)) (wdOk000 _ (by simp)) (wdOk000 _ (by simp)) (n := n1) (err := e1) (val := v1) HN1.out ⟨by omega, by omega⟩ HV1.out e he)
  clear z0 z1 z2 hL0 hL1 hl0 hl1 g0 g1 g2 hp
  go_enter Tryd.func7, Tryd.ntmps7
  go_wp2_with fail
  refine (awake24_any _ (HS.out.of (by (show Ext _ _; repeat (first | with_reducible (refine Hid.out ?_; assumption) | with_reducible exact Ext.refl _ | with_reducible refine Ext.ext ?_ _ | with_reducible refine Ext.alloc ?_ _ | refine Ext.drew ?_ | refine Ext.drewN ?_ _ | exact Ext.refl _))))).mono ?_
  rintro e w' ⟨rfl, r1, rfl⟩
  go_wp2_with fail
  refine (plan24_any _).mono ?_
  rintro e w' ⟨rfl, r2, rfl⟩
  go_wp2_with fail
  refine (first_any 3 8 0 _ (HS.out.of (by (show Ext _ _; repeat (first | with_reducible (refine Hid.out ?_; assumption) | with_reducible exact Ext.refl _ | with_reducible refine Ext.ext ?_ _ | with_reducible refine Ext.alloc ?_ _ | refine Ext.drew ?_ | refine Ext.drewN ?_ _ | exact Ext.refl _))))).mono ?_
  rintro e w' ⟨v8, rfl, ⟨r3, rfl⟩, hv8⟩
  obtain ⟨a8, c8, rfl⟩ := Own.shape hv8
  go_wp2_with fail
  refine (new_any (firstL 3 8 0) _ _ (by rw [aw24_len]; omega) (Sl.of_own wdE_len hv8)).mono ?_
  rintro e w' ⟨v9, rfl, ⟨r4, rfl⟩, hv9⟩
  have hM0 := Sl.of_own wdE_len hv9
  rw [HL0.out] at hM0
  obtain ⟨a9, c9, rfl⟩ := Own.shape hv9
  rw [HL0.out, HLen0.out] at hM0 ⊢
  clear hv8 hv9
  go_upto_region 8 with fail
  generalize hU : World.alloc _ _ = U
  have HEU := hid (show Ext w U by rw [← hU]; (show Ext _ _; repeat (first | with_reducible (refine Hid.out ?_; assumption) | with_reducible exact Ext.refl _ | with_reducible refine Ext.ext ?_ _ | with_reducible refine Ext.alloc ?_ _ | refine Ext.drew ?_ | refine Ext.drewN ?_ _ | exact Ext.refl _)))
  have HMU := hid (hM0.of wdE_len (show Ext _ U by rw [← hU]; (show Ext _ _; repeat (first | with_reducible (refine Hid.out ?_; assumption) | with_reducible exact Ext.refl _ | with_reducible refine Ext.ext ?_ _ | with_reducible refine Ext.alloc ?_ _ | refine Ext.drew ?_ | refine Ext.drewN ?_ _ | exact Ext.refl _))))
  have HBx := hid (show Blk U w.heap.size [.int .i64 n1, .int .i64 v1, .int .i16 e1] by rw [← hU]; (show Blk _ _ _; repeat (first | with_reducible (refine Hid.out ?_; assumption) | with_reducible refine Blk.drew ?_ | with_reducible refine Blk.ext ?_ _ | (with_reducible refine Blk.new _ _ rfl ?_; first | with_reducible rfl | (simp; done)) | with_reducible refine Blk.alloc ?_ _ | with_reducible assumption | with_reducible apply Blk.setE | (with_reducible refine Blk.other' ?_ ?_; first | omega | (simp; omega)) | (show List.set _ _ _ = _; exact rfl) | (show _ < List.length _; simp; done))))
  have HBy := hid (show Blk U (w.heap.size + 1) [.int .i64 n2, .int .i64 v2, .int .i16 e2] by rw [← hU]; (show Blk _ _ _; repeat (first | with_reducible (refine Hid.out ?_; assumption) | with_reducible refine Blk.drew ?_ | with_reducible refine Blk.ext ?_ _ | (with_reducible refine Blk.new _ _ rfl ?_; first | with_reducible rfl | (simp; done)) | with_reducible refine Blk.alloc ?_ _ | with_reducible assumption | with_reducible apply Blk.setE | (with_reducible refine Blk.other' ?_ ?_; first | omega | (simp; omega)) | (show List.set _ _ _ = _; exact rfl) | (show _ < List.length _; simp; done))))
  have HBl := hid (show Blk U (w.heap.size + 1 + 1 + r1.new.size + r2.new.size) [.int .i64 3, .int .i64 8, .int .i64 0] by rw [← hU]; (show Blk _ _ _; repeat (first | with_reducible (refine Hid.out ?_; assumption) | with_reducible refine Blk.drew ?_ | with_reducible refine Blk.ext ?_ _ | (with_reducible refine Blk.new _ _ rfl ?_; first | with_reducible rfl | (simp; done)) | with_reducible refine Blk.alloc ?_ _ | with_reducible assumption | with_reducible apply Blk.setE | (with_reducible refine Blk.other' ?_ ?_; first | omega | (simp; omega)) | (show List.set _ _ _ = _; exact rfl) | (show _ < List.length _; simp; done))))
  have HBm := hid (show Blk U (w.heap.size + 1 + 1 + r1.new.size + r2.new.size + 1 + r3.new.size + r4.new.size) [.slice a9 376 c9] by rw [← hU]; (show Blk _ _ _; repeat (first | with_reducible (refine Hid.out ?_; assumption) | with_reducible refine Blk.drew ?_ | with_reducible refine Blk.ext ?_ _ | (with_reducible refine Blk.new _ _ rfl ?_; first | with_reducible rfl | (simp; done)) | with_reducible refine Blk.alloc ?_ _ | with_reducible assumption | with_reducible apply Blk.setE | (with_reducible refine Blk.other' ?_ ?_; first | omega | (simp; omega)) | (show List.set _ _ _ = _; exact rfl) | (show _ < List.length _; simp; done))))
  generalize w.heap.size + 1 + 1 + r1.new.size + r2.new.size + 1 + r3.new.size + r4.new.size = nm at *
  generalize w.heap.size + 1 + 1 + r1.new.size + r2.new.size = nl at *
  generalize w.heap.size + 1 = ny at *
  clear hU hM0
  refine wp_region_held_drew (S := fun w' => (w'.cell? ⟨nl, 0, none⟩ = some (.int .i64 3) ∧ w'.cell? ⟨nl, 1, none⟩ = some (.int .i64 8) ∧ w'.cell? ⟨nl, 2, none⟩ = some (.int .i64 0)) ∧ (w'.cell? ⟨w.heap.size, 0, none⟩ = some (.int .i64 n1) ∧ w'.cell? ⟨w.heap.size, 1, none⟩ = some (.int .i64 v1) ∧ w'.cell? ⟨w.heap.size, 2, none⟩ = some (.int .i16 e1))) (by kernel_rfl) (by exact ⟨(HBl.out.of (show Ext U _ by (show Ext _ _; repeat (first | with_reducible (refine Hid.out ?_; assumption) | with_reducible exact Ext.refl _ | with_reducible refine Ext.ext ?_ _ | with_reducible refine Ext.alloc ?_ _ | with_reducible refine Ext.drew ?_ | with_reducible refine Ext.setCell ?_ (by (try dsimp only); first | omega | (simp; done) | (simp; omega)) _)))).three, (HBx.out.of (show Ext U _ by (show Ext _ _; repeat (first | with_reducible (refine Hid.out ?_; assumption) | with_reducible exact Ext.refl _ | with_reducible refine Ext.ext ?_ _ | with_reducible refine Ext.alloc ?_ _ | with_reducible refine Ext.drew ?_ | with_reducible refine Ext.setCell ?_ (by (try dsimp only); first | omega | (simp; done) | (simp; omega)) _)))).three⟩) (fun hHeld => ?_)
  refine take_met 0 (oi := ⟨_, _, _, _, _, _⟩) (v := ?_) (by kernel_rfl) rfl (by rfl) (fun _ _ _ h => h) (by assumption) ?_ ?_
  rotate_left 1
  · intro w hSw
    try dsimp only at hSw
    go_simp
    try with_reducible rfl
  (try simp only [Act.put, List.setIfInBounds_toArray, List.set_cons_zero, List.set_cons_succ])
  refine take_met 1 (oi := ⟨_, _, _, _, _, _⟩) (v := ?_) (by kernel_rfl) rfl (by rfl) (fun _ _ _ h => h) (by assumption) ?_ ?_
  rotate_left 1
  · intro w hSw
    try dsimp only at hSw
    go_simp
    try with_reducible rfl
  (try simp only [Act.put, List.setIfInBounds_toArray, List.set_cons_zero, List.set_cons_succ])
  refine take_met 3 (oi := ⟨_, _, _, _, _, _⟩) (v := ?_) (by kernel_rfl) rfl (by rfl) (fun _ _ _ h => h) (by assumption) ?_ ?_
  rotate_left 1
  · intro w hSw
    try dsimp only at hSw
    go_simp
    try with_reducible rfl
  (try simp only [Act.put, List.setIfInBounds_toArray, List.set_cons_zero, List.set_cons_succ])
  refine take_met 4 (oi := ⟨_, _, _, _, _, _⟩) (v := ?_) (by kernel_rfl) rfl (by rfl) (fun _ _ _ h => h) (by assumption) ?_ ?_
  rotate_left 1
  · intro w hSw
    try dsimp only at hSw
    go_simp
    try with_reducible rfl
  (try simp only [Act.put, List.setIfInBounds_toArray, List.set_cons_zero, List.set_cons_succ])
  refine take_met 5 (oi := ⟨_, _, _, _, _, _⟩) (v := ?_) (by kernel_rfl) rfl (by rfl) (fun _ _ _ h => h) (by assumption) ?_ ?_
  rotate_left 1
  · intro w hSw
    try dsimp only at hSw
    go_simp
    try with_reducible rfl
  (try simp only [Act.put, List.setIfInBounds_toArray, List.set_cons_zero, List.set_cons_succ])
  refine take_met 6 (oi := ⟨_, _, _, _, _, _⟩) (v := ?_) (by kernel_rfl) rfl (by rfl) (fun _ _ _ h => h) (by assumption) ?_ ?_
  rotate_left 1
  · intro w hSw
    try dsimp only at hSw
    go_simp
    try with_reducible rfl
  (try simp only [Act.put, List.setIfInBounds_toArray, List.set_cons_zero, List.set_cons_succ])
  refine take_met 7 (oi := ⟨_, _, _, _, _, _⟩) (v := ?_) (by kernel_rfl) rfl (by rfl) (fun _ _ _ h => h) (by assumption) ?_ ?_
  rotate_left 1
  · intro w hSw
    try dsimp only at hSw
    go_simp
    try with_reducible rfl
  (try simp only [Act.put, List.setIfInBounds_toArray, List.set_cons_zero, List.set_cons_succ])
  refine take_met 8 (oi := ⟨_, _, _, _, _, _⟩) (v := ?_) (by kernel_rfl) rfl (by rfl) (fun _ _ _ h => h) (by assumption) ?_ ?_
  rotate_left 1
  · intro w hSw
    try dsimp only at hSw
    go_simp
    try with_reducible rfl
  (try simp only [Act.put, List.setIfInBounds_toArray, List.set_cons_zero, List.set_cons_succ])
  refine take_met 9 (oi := ⟨_, _, _, _, _, _⟩) (v := ?_) (by kernel_rfl) rfl (by rfl) (fun _ _ _ h => h) (by assumption) ?_ ?_
  rotate_left 1
  · intro w hSw
    try dsimp only at hSw
    go_simp
    try with_reducible rfl
  (try simp only [Act.put, List.setIfInBounds_toArray, List.set_cons_zero, List.set_cons_succ])
  refine take_met 10 (oi := ⟨_, _, _, _, _, _⟩) (v := ?_) (by kernel_rfl) rfl (by rfl) (fun _ _ _ h => h) (by assumption) ?_ ?_
  rotate_left 1
  · intro w hSw
    try dsimp only at hSw
    go_simp
    try with_reducible rfl
  (try simp only [Act.put, List.setIfInBounds_toArray, List.set_cons_zero, List.set_cons_succ])
  refine take_only 2 (oi := ⟨_, _, _, _, _, _⟩) (by kernel_rfl) rfl (fun K hK => ?_)
  go_simp
  have hOld := hHeld
  clear hHeld
  refine hK.out _ _ (by exact ⟨(HBl.out.of (show Ext U _ by (show Ext _ _; repeat (first | with_reducible (refine Hid.out ?_; assumption) | with_reducible exact Ext.refl _ | with_reducible refine Ext.ext ?_ _ | with_reducible refine Ext.alloc ?_ _ | with_reducible refine Ext.drew ?_ | with_reducible refine Ext.setCell ?_ (by (try dsimp only); first | omega | (simp; done) | (simp; omega)) _)))).three, (HBx.out.of (show Ext U _ by (show Ext _ _; repeat (first | with_reducible (refine Hid.out ?_; assumption) | with_reducible exact Ext.refl _ | with_reducible refine Ext.ext ?_ _ | with_reducible refine Ext.alloc ?_ _ | with_reducible refine Ext.drew ?_ | with_reducible refine Ext.setCell ?_ (by (try dsimp only); first | omega | (simp; done) | (simp; omega)) _)))).three⟩) (fun hHeld => ?_)
  clear hOld hK K
  (try simp only [Act.put, List.setIfInBounds_toArray, List.set_cons_zero, List.set_cons_succ])
  refine take_only 11 (oi := ⟨_, _, _, _, _, _⟩) (by kernel_rfl) rfl (fun K hK => ?_)
  go_simp
  first
    | (go_at_call 13; refine (dent_any 3 8 0 ((q : Int) + 1) (List.replicate 3 (0, 0, 0)) _ wdOk000 n1 e1 v1 HN1.out ⟨by omega, by omega⟩ HV1.out _ ?_ ?_).mono ?_; exact HS.out.of (HEU.out.trans (by (show Ext _ _; repeat (first | with_reducible (refine Hid.out ?_; assumption) | with_reducible exact Ext.refl _ | with_reducible refine Ext.ext ?_ _ | with_reducible refine Ext.alloc ?_ _ | refine Ext.drew ?_ | refine Ext.drewN ?_ _ | exact Ext.refl _)))); exact Sl.of_own wdE_len (Ws.made 3 (by omega) _ 0 (Nat.zero_le _)); rintro y w' ⟨v10, rfl, ⟨r5, rfl⟩, hv10⟩; rw [HD1.out] at hv10 ⊢; dsimp only at hv10 ⊢)
  have hOld := hHeld
  clear hHeld
  refine hK.out _ _ (by exact ⟨(HBl.out.of (show Ext U _ by (show Ext _ _; repeat (first | with_reducible (refine Hid.out ?_; assumption) | with_reducible exact Ext.refl _ | with_reducible refine Ext.ext ?_ _ | with_reducible refine Ext.alloc ?_ _ | with_reducible refine Ext.drew ?_ | with_reducible refine Ext.setCell ?_ (by (try dsimp only); first | omega | (simp; done) | (simp; omega)) _)))).three, (HBx.out.of (show Ext U _ by (show Ext _ _; repeat (first | with_reducible (refine Hid.out ?_; assumption) | with_reducible exact Ext.refl _ | with_reducible refine Ext.ext ?_ _ | with_reducible refine Ext.alloc ?_ _ | with_reducible refine Ext.drew ?_ | with_reducible refine Ext.setCell ?_ (by (try dsimp only); first | omega | (simp; done) | (simp; omega)) _)))).three⟩) (fun hHeld => ?_)
  clear hOld hK K
  (try simp only [Act.put, List.setIfInBounds_toArray, List.set_cons_zero, List.set_cons_succ])
  refine take_met 12 (oi := ⟨_, _, _, _, _, _⟩) (v := ?_) (by kernel_rfl) rfl (by rfl) (fun _ _ _ h => h) (by assumption) ?_ ?_
  rotate_left 1
  · intro w hSw
    try dsimp only at hSw
    go_simp
    try with_reducible rfl
  (try simp only [Act.put, List.setIfInBounds_toArray, List.set_cons_zero, List.set_cons_succ])
  refine take_met 13 (oi := ⟨_, _, _, _, _, _⟩) (v := ?_) (by kernel_rfl) rfl (by rfl) (fun _ _ _ h => h) (by assumption) ?_ ?_
  rotate_left 1
  · intro w hSw
    try dsimp only at hSw
    go_simp
    try with_reducible rfl
  (try simp only [Act.put, List.setIfInBounds_toArray, List.set_cons_zero, List.set_cons_succ])
  refine take_met 14 (oi := ⟨_, _, _, _, _, _⟩) (v := ?_) (by kernel_rfl) rfl (by rfl) (fun _ _ _ h => h) (by assumption) ?_ ?_
  rotate_left 1
  · intro w hSw
    try dsimp only at hSw
    go_simp
    try with_reducible rfl
  (try simp only [Act.put, List.setIfInBounds_toArray, List.set_cons_zero, List.set_cons_succ])
  refine take_met 15 (oi := ⟨_, _, _, _, _, _⟩) (v := ?_) (by kernel_rfl) rfl (by rfl) (fun _ _ _ h => h) (by assumption) ?_ ?_
  rotate_left 1
  · intro w hSw
    try dsimp only at hSw
    go_simp
    try with_reducible rfl
  (try simp only [Act.put, List.setIfInBounds_toArray, List.set_cons_zero, List.set_cons_succ])
  refine take_met 16 (oi := ⟨_, _, _, _, _, _⟩) (v := ?_) (by kernel_rfl) rfl (by rfl) (fun _ _ _ h => h) (by assumption) ?_ ?_
  rotate_left 1
  · intro w hSw
    try dsimp only at hSw
    go_simp
    try with_reducible rfl
  (try simp only [Act.put, List.setIfInBounds_toArray, List.set_cons_zero, List.set_cons_succ])
  refine wpAnyH_done (by kernel_rfl) ?_ _
  obtain ⟨a10, c10, rfl⟩ := Own.shape hv10
  have hl3 : (recE (p : Int) (0, 0, 0) (0, 0, 0) (0, 0, 0) n1 e1 v1).length = 3 := rfl
  rw [hl3] at hv10 ⊢
  generalize hV : ext _ r5 = V at *
  have HEV := hid (show Ext U V by rw [← hV]; (show Ext _ _; repeat (first | with_reducible (refine Hid.out ?_; assumption) | with_reducible exact Ext.refl _ | with_reducible refine Ext.ext ?_ _ | with_reducible refine Ext.alloc ?_ _ | refine Ext.drew ?_ | refine Ext.drewN ?_ _ | exact Ext.refl _)))
  have HEVw := hid (HEU.out.trans HEV.out)
  have HEs := hid (show Es V (.slice a10 3 c10) (recE p (0, 0, 0) (0, 0, 0) (0, 0, 0) n1 e1 v1) from Sl.of_own enE_len hv10)
  have m0 := (HBm.out.of HEV.out).2.2 0 _ rfl
  have m1 := (HBm.out.of HEV.out).1
  clear hV hv10 hl3
  go_wp2_with fail
  refine (swap_any L0 (recE p (0, 0, 0) (0, 0, 0) (0, 0, 0) n1 e1 v1) _ _ _ (by rw [HLen0.out]; omega) HEO.out (HMU.out.of wdE_len (HEV.out.trans (by (show Ext _ _; repeat (first | with_reducible (refine Hid.out ?_; assumption) | with_reducible exact Ext.refl _ | with_reducible refine Ext.ext ?_ _ | with_reducible refine Ext.alloc ?_ _ | refine Ext.drew ?_ | refine Ext.drewN ?_ _ | exact Ext.refl _))))) (HEs.out.of enE_len (by (show Ext _ _; repeat (first | with_reducible (refine Hid.out ?_; assumption) | with_reducible exact Ext.refl _ | with_reducible refine Ext.ext ?_ _ | with_reducible refine Ext.alloc ?_ _ | refine Ext.drew ?_ | refine Ext.drewN ?_ _ | exact Ext.refl _))))).mono ?_
  rintro e w' ⟨v12, rfl, ⟨r6, rfl⟩, hv12⟩
  rw [HS1.out] at hv12 ⊢
  dsimp only at hv12 ⊢
  have hM1 := hv12
  obtain ⟨a12, c12, rfl, _, _⟩ := hv12
  rw [HLen1.out] at hM1 ⊢
  go_wp2_with fail
  generalize hY : World.alloc _ _ = Y
  have HEY := hid (show Ext V Y by rw [← hY]; (show Ext _ _; repeat (first | with_reducible (refine Hid.out ?_; assumption) | with_reducible exact Ext.refl _ | with_reducible refine Ext.ext ?_ _ | with_reducible refine Ext.alloc ?_ _ | refine Ext.drew ?_ | refine Ext.drewN ?_ _ | exact Ext.refl _)))
  have HEYw := hid (HEVw.out.trans HEY.out)
  have HMY := hid (hM1.of wdE_len (show Ext _ Y by rw [← hY]; (show Ext _ _; repeat (first | with_reducible (refine Hid.out ?_; assumption) | with_reducible exact Ext.refl _ | with_reducible refine Ext.ext ?_ _ | with_reducible refine Ext.alloc ?_ _ | refine Ext.drew ?_ | refine Ext.drewN ?_ _ | exact Ext.refl _))))
  have HB1 := hid (show Blk Y (V.heap.size + r6.new.size) [.slice a12 376 c12] by rw [← hY]; (show Blk _ _ _; repeat (first | with_reducible (refine Hid.out ?_; assumption) | with_reducible refine Blk.drew ?_ | with_reducible refine Blk.ext ?_ _ | (with_reducible refine Blk.new _ _ rfl ?_; first | with_reducible rfl | (simp; done)) | with_reducible refine Blk.alloc ?_ _ | with_reducible assumption | with_reducible apply Blk.setE | (with_reducible refine Blk.other' ?_ ?_; first | omega | (simp; omega)) | (show List.set _ _ _ = _; exact rfl) | (show _ < List.length _; simp; done))))
  have HBlY := hid ((HBl.out.of HEV.out).of HEY.out)
  have HByY := hid ((HBy.out.of HEV.out).of HEY.out)
  have HBxY := hid ((HBx.out.of HEV.out).of HEY.out)
  generalize V.heap.size + r6.new.size = nq at *
  clear hY hM1 m0 m1 HMU HEs HEO HS1 HD1
  go_loopw [15, 16] (fun o i wr => ∃ j : Nat, j ≤ 3 ∧ i = .int .i64 j ∧ Hid (Ws wr Y.heap.size o (([n1, v1, e1].take j).map (fun u => ((u, 1, 0) : Wd)))) ∧ Hid (Ext Y wr)) (fun _ i _ => 3 - (intOf i).toNat)
  case atStart => exact ⟨0, by omega, rfl, hid Own.nil, hid (Ext.refl _)⟩
  case round =>
  obtain ⟨j, hj, rfl, HO, HX⟩ := hrel
  have HXw := hid (HEYw.out.trans HX.out)
  obtain ⟨l0, l1, l2⟩ := (HBlY.out.of HX.out).three
  have l4 := (HBlY.out.of HX.out).1
  have k0 := (HB1.out.of HX.out).2.2 0 _ rfl
  have k1 := (HB1.out.of HX.out).1
  by_cases hj3 : j < 3
  · have hjj : (j : Int) < 3 := by omega
    obtain ⟨u, hu⟩ : ∃ u, [n1, v1, e1][j]? = some u := ⟨_, List.getElem?_eq_getElem (by show j < 3; exact hj3)⟩
    have HA := hid (HAt.out j u hu)
    have hap : (([n1, v1, e1].take (j + 1)).map (fun u => ((u, 1, 0) : Wd))) = (([n1, v1, e1].take j).map (fun u => ((u, 1, 0) : Wd))) ++ [(u, 1, 0)] := by
      obtain ⟨h1, h2⟩ := List.getElem?_eq_some_iff.1 hu
      rw [List.take_succ_eq_append_getElem h1, h2, List.map_append]; rfl
    have HAp := hid hap
    have t3 : IntKind.i64.wrap ((p : Int) + (j : Int)) = (p : Int) + (j : Int) := IntWalk.i64_in _ (by omega)
    clear hu hap
    go_upto_region 16 with fail
    go_cut [17, 18] (fun a17 a18 wx => ∃ g2 : Nat, a17 = .pointer (some ⟨g2, 0, none⟩) ∧ a18 = .bool true ∧ Blk wx g2 [.int .i64 u, .int .u32 1, .int .u32 0] ∧ Ext wr wx ∧ wr.heap.size ≤ g2)
    case first =>
      refine wp_region_held_drew (S := fun w' => (w'.cell? ⟨nl, 0, none⟩ = some (.int .i64 3) ∧ w'.cell? ⟨nl, 1, none⟩ = some (.int .i64 8) ∧ w'.cell? ⟨nl, 2, none⟩ = some (.int .i64 0)) ∧ w'.cell? ⟨nq, 0, none⟩ = some (.slice a12 376 c12)) (by kernel_rfl) (by exact ⟨⟨(show Ext wr _ by (show Ext _ _; repeat (first | with_reducible (refine Hid.out ?_; assumption) | with_reducible exact Ext.refl _ | with_reducible refine Ext.ext ?_ _ | with_reducible refine Ext.alloc ?_ _ | with_reducible refine Ext.drew ?_ | with_reducible refine Ext.setCell ?_ (by (try dsimp only); first | omega | (simp; done) | (simp; omega)) _))).cell l0, (show Ext wr _ by (show Ext _ _; repeat (first | with_reducible (refine Hid.out ?_; assumption) | with_reducible exact Ext.refl _ | with_reducible refine Ext.ext ?_ _ | with_reducible refine Ext.alloc ?_ _ | with_reducible refine Ext.drew ?_ | with_reducible refine Ext.setCell ?_ (by (try dsimp only); first | omega | (simp; done) | (simp; omega)) _))).cell l1, (show Ext wr _ by (show Ext _ _; repeat (first | with_reducible (refine Hid.out ?_; assumption) | with_reducible exact Ext.refl _ | with_reducible refine Ext.ext ?_ _ | with_reducible refine Ext.alloc ?_ _ | with_reducible refine Ext.drew ?_ | with_reducible refine Ext.setCell ?_ (by (try dsimp only); first | omega | (simp; done) | (simp; omega)) _))).cell l2⟩, (show Ext wr _ by (show Ext _ _; repeat (first | with_reducible (refine Hid.out ?_; assumption) | with_reducible exact Ext.refl _ | with_reducible refine Ext.ext ?_ _ | with_reducible refine Ext.alloc ?_ _ | with_reducible refine Ext.drew ?_ | with_reducible refine Ext.setCell ?_ (by (try dsimp only); first | omega | (simp; done) | (simp; omega)) _))).cell k0⟩) (fun hHeld => ?_)
      refine take_met 0 (oi := ⟨_, _, _, _, _, _⟩) (v := ?_) (by kernel_rfl) rfl (by rfl) (fun _ _ _ h => h) (by assumption) ?_ ?_
      rotate_left 1
      · intro w hSw
        try dsimp only at hSw
        go_simp
        try with_reducible rfl
      (try simp only [Act.put, List.setIfInBounds_toArray, List.set_cons_zero, List.set_cons_succ])
      refine take_met 1 (oi := ⟨_, _, _, _, _, _⟩) (v := ?_) (by kernel_rfl) rfl (by rfl) (fun _ _ _ h => h) (by assumption) ?_ ?_
      rotate_left 1
      · intro w hSw
        try dsimp only at hSw
        go_simp
        try with_reducible rfl
      (try simp only [Act.put, List.setIfInBounds_toArray, List.set_cons_zero, List.set_cons_succ])
      refine take_met 2 (oi := ⟨_, _, _, _, _, _⟩) (v := ?_) (by kernel_rfl) rfl (by rfl) (fun _ _ _ h => h) (by assumption) ?_ ?_
      rotate_left 1
      · intro w hSw
        try dsimp only at hSw
        go_simp
        try with_reducible rfl
      (try simp only [Act.put, List.setIfInBounds_toArray, List.set_cons_zero, List.set_cons_succ])
      refine take_met 4 (oi := ⟨_, _, _, _, _, _⟩) (v := ?_) (by kernel_rfl) rfl (by rfl) (fun _ _ _ h => h) (by assumption) ?_ ?_
      rotate_left 1
      · intro w hSw
        try dsimp only at hSw
        go_simp
        try with_reducible rfl
      (try simp only [Act.put, List.setIfInBounds_toArray, List.set_cons_zero, List.set_cons_succ])
      refine wpAnyH_ready (rs := [3, 10]) (by kernel_rfl) (by simp) ?_
      refine AllReadyH.cons (o := ⟨_, _, _, _, _, _⟩) rfl (fun K hK => ?_) ?_
      · skip
        go_simp
        first
          | (go_at_call 12; refine (record_any 3 8 0 ((q : Int) + 1) _ (HS.out.of (HXw.out.trans (by (show Ext _ _; repeat (first | with_reducible (refine Hid.out ?_; assumption) | with_reducible exact Ext.refl _ | with_reducible refine Ext.ext ?_ _ | with_reducible refine Ext.alloc ?_ _ | refine Ext.drew ?_ | refine Ext.drewN ?_ _ | exact Ext.refl _)))))).mono ?_; rintro e w' ⟨rfl, r7, rfl⟩; rw [HP2.out])
        have hOld := hHeld
        clear hHeld
        refine hK.out _ _ (by exact ⟨⟨(show Ext wr _ by (show Ext _ _; repeat (first | with_reducible (refine Hid.out ?_; assumption) | with_reducible exact Ext.refl _ | with_reducible refine Ext.ext ?_ _ | with_reducible refine Ext.alloc ?_ _ | with_reducible refine Ext.drew ?_ | with_reducible refine Ext.setCell ?_ (by (try dsimp only); first | omega | (simp; done) | (simp; omega)) _))).cell l0, (show Ext wr _ by (show Ext _ _; repeat (first | with_reducible (refine Hid.out ?_; assumption) | with_reducible exact Ext.refl _ | with_reducible refine Ext.ext ?_ _ | with_reducible refine Ext.alloc ?_ _ | with_reducible refine Ext.drew ?_ | with_reducible refine Ext.setCell ?_ (by (try dsimp only); first | omega | (simp; done) | (simp; omega)) _))).cell l1, (show Ext wr _ by (show Ext _ _; repeat (first | with_reducible (refine Hid.out ?_; assumption) | with_reducible exact Ext.refl _ | with_reducible refine Ext.ext ?_ _ | with_reducible refine Ext.alloc ?_ _ | with_reducible refine Ext.drew ?_ | with_reducible refine Ext.setCell ?_ (by (try dsimp only); first | omega | (simp; done) | (simp; omega)) _))).cell l2⟩, (show Ext wr _ by (show Ext _ _; repeat (first | with_reducible (refine Hid.out ?_; assumption) | with_reducible exact Ext.refl _ | with_reducible refine Ext.ext ?_ _ | with_reducible refine Ext.alloc ?_ _ | with_reducible refine Ext.drew ?_ | with_reducible refine Ext.setCell ?_ (by (try dsimp only); first | omega | (simp; done) | (simp; omega)) _))).cell k0⟩) (fun hHeld => ?_)
        clear hOld hK K
        (try simp only [Act.put, List.setIfInBounds_toArray, List.set_cons_zero, List.set_cons_succ])
        refine take_met 5 (oi := ⟨_, _, _, _, _, _⟩) (v := ?_) (by kernel_rfl) rfl (by rfl) (fun _ _ _ h => h) (by assumption) ?_ ?_
        rotate_left 1
        · intro w hSw
          try dsimp only at hSw
          go_simp
          try with_reducible rfl
        (try simp only [Act.put, List.setIfInBounds_toArray, List.set_cons_zero, List.set_cons_succ])
        refine wpAnyH_ready (rs := [6, 10]) (by kernel_rfl) (by simp) ?_
        refine AllReadyH.cons (o := ⟨_, _, _, _, _, _⟩) rfl (fun K hK => ?_) ?_
        · skip
          go_simp
          first
            | (go_at_call 23; refine (mat_any L1 _ ((p : Int) + j) _ (HMY.out.of wdE_len (HX.out.trans (by (show Ext _ _; repeat (first | with_reducible (refine Hid.out ?_; assumption) | with_reducible exact Ext.refl _ | with_reducible refine Ext.ext ?_ _ | with_reducible refine Ext.alloc ?_ _ | refine Ext.drew ?_ | refine Ext.drewN ?_ _ | exact Ext.refl _)))))).mono ?_; rintro e w' ⟨rfl, r8, rfl⟩; rw [HA.out]; dsimp only)
          have hOld := hHeld
          clear hHeld
          refine hK.out _ _ (by exact ⟨⟨(show Ext wr _ by (show Ext _ _; repeat (first | with_reducible (refine Hid.out ?_; assumption) | with_reducible exact Ext.refl _ | with_reducible refine Ext.ext ?_ _ | with_reducible refine Ext.alloc ?_ _ | with_reducible refine Ext.drew ?_ | with_reducible refine Ext.setCell ?_ (by (try dsimp only); first | omega | (simp; done) | (simp; omega)) _))).cell l0, (show Ext wr _ by (show Ext _ _; repeat (first | with_reducible (refine Hid.out ?_; assumption) | with_reducible exact Ext.refl _ | with_reducible refine Ext.ext ?_ _ | with_reducible refine Ext.alloc ?_ _ | with_reducible refine Ext.drew ?_ | with_reducible refine Ext.setCell ?_ (by (try dsimp only); first | omega | (simp; done) | (simp; omega)) _))).cell l1, (show Ext wr _ by (show Ext _ _; repeat (first | with_reducible (refine Hid.out ?_; assumption) | with_reducible exact Ext.refl _ | with_reducible refine Ext.ext ?_ _ | with_reducible refine Ext.alloc ?_ _ | with_reducible refine Ext.drew ?_ | with_reducible refine Ext.setCell ?_ (by (try dsimp only); first | omega | (simp; done) | (simp; omega)) _))).cell l2⟩, (show Ext wr _ by (show Ext _ _; repeat (first | with_reducible (refine Hid.out ?_; assumption) | with_reducible exact Ext.refl _ | with_reducible refine Ext.ext ?_ _ | with_reducible refine Ext.alloc ?_ _ | with_reducible refine Ext.drew ?_ | with_reducible refine Ext.setCell ?_ (by (try dsimp only); first | omega | (simp; done) | (simp; omega)) _))).cell k0⟩) (fun hHeld => ?_)
          clear hOld hK K
          (try simp only [Act.put, List.setIfInBounds_toArray, List.set_cons_zero, List.set_cons_succ])
          refine take_met 7 (oi := ⟨_, _, _, _, _, _⟩) (v := ?_) (by kernel_rfl) rfl (by rfl) (fun _ _ _ h => h) (by assumption) ?_ ?_
          rotate_left 1
          · intro w hSw
            try dsimp only at hSw
            go_simp
            try with_reducible rfl
          (try simp only [Act.put, List.setIfInBounds_toArray, List.set_cons_zero, List.set_cons_succ])
          refine take_met 8 (oi := ⟨_, _, _, _, _, _⟩) (v := ?_) (by kernel_rfl) rfl (by rfl) (fun _ _ _ h => h) (by assumption) ?_ ?_
          rotate_left 1
          · intro w hSw
            try dsimp only at hSw
            go_simp
            try with_reducible rfl
          (try simp only [Act.put, List.setIfInBounds_toArray, List.set_cons_zero, List.set_cons_succ])
          refine take_met 9 (oi := ⟨_, _, _, _, _, _⟩) (v := ?_) (by kernel_rfl) rfl (by rfl) (fun _ _ _ h => h) (by assumption) ?_ ?_
          rotate_left 1
          · intro w hSw
            try dsimp only at hSw
            go_simp
            try with_reducible rfl
          (try simp only [Act.put, List.setIfInBounds_toArray, List.set_cons_zero, List.set_cons_succ])
          refine take_only 10 (oi := ⟨_, _, _, _, _, _⟩) (by kernel_rfl) rfl (fun K hK => ?_)
          go_simp
          have hOld := hHeld
          clear hHeld
          refine hK.out _ _ (by exact ⟨⟨(show Ext wr _ by (show Ext _ _; repeat (first | with_reducible (refine Hid.out ?_; assumption) | with_reducible exact Ext.refl _ | with_reducible refine Ext.ext ?_ _ | with_reducible refine Ext.alloc ?_ _ | with_reducible refine Ext.drew ?_ | with_reducible refine Ext.setCell ?_ (by (try dsimp only); first | omega | (simp; done) | (simp; omega)) _))).cell l0, (show Ext wr _ by (show Ext _ _; repeat (first | with_reducible (refine Hid.out ?_; assumption) | with_reducible exact Ext.refl _ | with_reducible refine Ext.ext ?_ _ | with_reducible refine Ext.alloc ?_ _ | with_reducible refine Ext.drew ?_ | with_reducible refine Ext.setCell ?_ (by (try dsimp only); first | omega | (simp; done) | (simp; omega)) _))).cell l1, (show Ext wr _ by (show Ext _ _; repeat (first | with_reducible (refine Hid.out ?_; assumption) | with_reducible exact Ext.refl _ | with_reducible refine Ext.ext ?_ _ | with_reducible refine Ext.alloc ?_ _ | with_reducible refine Ext.drew ?_ | with_reducible refine Ext.setCell ?_ (by (try dsimp only); first | omega | (simp; done) | (simp; omega)) _))).cell l2⟩, (show Ext wr _ by (show Ext _ _; repeat (first | with_reducible (refine Hid.out ?_; assumption) | with_reducible exact Ext.refl _ | with_reducible refine Ext.ext ?_ _ | with_reducible refine Ext.alloc ?_ _ | with_reducible refine Ext.drew ?_ | with_reducible refine Ext.setCell ?_ (by (try dsimp only); first | omega | (simp; done) | (simp; omega)) _))).cell k0⟩) (fun hHeld => ?_)
          clear hOld hK K
          (try simp only [Act.put, List.setIfInBounds_toArray, List.set_cons_zero, List.set_cons_succ])
          refine take_only 11 (oi := ⟨_, _, _, _, _, _⟩) (by kernel_rfl) rfl (fun K hK => ?_)
          go_simp
          have hOld := hHeld
          clear hHeld
          refine hK.out _ _ (by exact ⟨⟨(show Ext wr _ by (show Ext _ _; repeat (first | with_reducible (refine Hid.out ?_; assumption) | with_reducible exact Ext.refl _ | with_reducible refine Ext.ext ?_ _ | with_reducible refine Ext.alloc ?_ _ | with_reducible refine Ext.drew ?_ | with_reducible refine Ext.setCell ?_ (by (try dsimp only); first | omega | (simp; done) | (simp; omega)) _))).cell l0, (show Ext wr _ by (show Ext _ _; repeat (first | with_reducible (refine Hid.out ?_; assumption) | with_reducible exact Ext.refl _ | with_reducible refine Ext.ext ?_ _ | with_reducible refine Ext.alloc ?_ _ | with_reducible refine Ext.drew ?_ | with_reducible refine Ext.setCell ?_ (by (try dsimp only); first | omega | (simp; done) | (simp; omega)) _))).cell l1, (show Ext wr _ by (show Ext _ _; repeat (first | with_reducible (refine Hid.out ?_; assumption) | with_reducible exact Ext.refl _ | with_reducible refine Ext.ext ?_ _ | with_reducible refine Ext.alloc ?_ _ | with_reducible refine Ext.drew ?_ | with_reducible refine Ext.setCell ?_ (by (try dsimp only); first | omega | (simp; done) | (simp; omega)) _))).cell l2⟩, (show Ext wr _ by (show Ext _ _; repeat (first | with_reducible (refine Hid.out ?_; assumption) | with_reducible exact Ext.refl _ | with_reducible refine Ext.ext ?_ _ | with_reducible refine Ext.alloc ?_ _ | with_reducible refine Ext.drew ?_ | with_reducible refine Ext.setCell ?_ (by (try dsimp only); first | omega | (simp; done) | (simp; omega)) _))).cell k0⟩) (fun hHeld => ?_)
          clear hOld hK K
          (try simp only [Act.put, List.setIfInBounds_toArray, List.set_cons_zero, List.set_cons_succ])
          refine take_met 12 (oi := ⟨_, _, _, _, _, _⟩) (v := ?_) (by kernel_rfl) rfl (by rfl) (fun _ _ _ h => h) (by assumption) ?_ ?_
          rotate_left 1
          · intro w hSw
            try dsimp only at hSw
            go_simp
            try with_reducible rfl
          (try simp only [Act.put, List.setIfInBounds_toArray, List.set_cons_zero, List.set_cons_succ])
          refine wpAnyH_done (by kernel_rfl) ?_ _
          go_wp2_with fail
          go_meet
          exact ⟨_, rfl, rfl, by (show Blk _ _ _; repeat (first | with_reducible (refine Hid.out ?_; assumption) | with_reducible apply Blk.drew | with_reducible apply Blk.ext | ((with_reducible refine Blk.new _ _ rfl ?_); first | with_reducible rfl | focus (simp; done)) | ((with_reducible apply Blk.newE); first | with_reducible rfl | focus (simp; done)) | with_reducible apply Blk.alloc | with_reducible assumption | with_reducible apply Blk.setE | ((with_reducible refine Blk.other' ?_ ?_); first | omega | (simp; omega)) | (show List.set _ _ _ = _; exact rfl) | focus (show _ < List.length _; simp; done))), by (show Ext _ _; repeat (first | with_reducible (refine Hid.out ?_; assumption) | with_reducible exact Ext.refl _ | with_reducible refine Ext.ext ?_ _ | with_reducible refine Ext.alloc ?_ _ | with_reducible refine Ext.drew ?_ | with_reducible refine Ext.setCell ?_ (by (try dsimp only); first | omega | (simp; done) | (simp; omega)) _)), by omega⟩
        refine AllReadyH.cons (o := ⟨_, _, _, _, _, _⟩) rfl (fun K hK => ?_) AllReadyH.nil
        go_simp
        have hOld := hHeld
        clear hHeld
        refine hK.out _ _ (by exact ⟨⟨(show Ext wr _ by (show Ext _ _; repeat (first | with_reducible (refine Hid.out ?_; assumption) | with_reducible exact Ext.refl _ | with_reducible refine Ext.ext ?_ _ | with_reducible refine Ext.alloc ?_ _ | with_reducible refine Ext.drew ?_ | with_reducible refine Ext.setCell ?_ (by (try dsimp only); first | omega | (simp; done) | (simp; omega)) _))).cell l0, (show Ext wr _ by (show Ext _ _; repeat (first | with_reducible (refine Hid.out ?_; assumption) | with_reducible exact Ext.refl _ | with_reducible refine Ext.ext ?_ _ | with_reducible refine Ext.alloc ?_ _ | with_reducible refine Ext.drew ?_ | with_reducible refine Ext.setCell ?_ (by (try dsimp only); first | omega | (simp; done) | (simp; omega)) _))).cell l1, (show Ext wr _ by (show Ext _ _; repeat (first | with_reducible (refine Hid.out ?_; assumption) | with_reducible exact Ext.refl _ | with_reducible refine Ext.ext ?_ _ | with_reducible refine Ext.alloc ?_ _ | with_reducible refine Ext.drew ?_ | with_reducible refine Ext.setCell ?_ (by (try dsimp only); first | omega | (simp; done) | (simp; omega)) _))).cell l2⟩, (show Ext wr _ by (show Ext _ _; repeat (first | with_reducible (refine Hid.out ?_; assumption) | with_reducible exact Ext.refl _ | with_reducible refine Ext.ext ?_ _ | with_reducible refine Ext.alloc ?_ _ | with_reducible refine Ext.drew ?_ | with_reducible refine Ext.setCell ?_ (by (try dsimp only); first | omega | (simp; done) | (simp; omega)) _))).cell k0⟩) (fun hHeld => ?_)
        clear hOld hK K
        (try simp only [Act.put, List.setIfInBounds_toArray, List.set_cons_zero, List.set_cons_succ])
        refine take_only 6 (oi := ⟨_, _, _, _, _, _⟩) (by kernel_rfl) rfl (fun K hK => ?_)
        go_simp
        first
          | (go_at_call 23; refine (mat_any L1 _ ((p : Int) + j) _ (HMY.out.of wdE_len (HX.out.trans (by (show Ext _ _; repeat (first | with_reducible (refine Hid.out ?_; assumption) | with_reducible exact Ext.refl _ | with_reducible refine Ext.ext ?_ _ | with_reducible refine Ext.alloc ?_ _ | refine Ext.drew ?_ | refine Ext.drewN ?_ _ | exact Ext.refl _)))))).mono ?_; rintro e w' ⟨rfl, r8, rfl⟩; rw [HA.out]; dsimp only)
        have hOld := hHeld
        clear hHeld
        refine hK.out _ _ (by exact ⟨⟨(show Ext wr _ by (show Ext _ _; repeat (first | with_reducible (refine Hid.out ?_; assumption) | with_reducible exact Ext.refl _ | with_reducible refine Ext.ext ?_ _ | with_reducible refine Ext.alloc ?_ _ | with_reducible refine Ext.drew ?_ | with_reducible refine Ext.setCell ?_ (by (try dsimp only); first | omega | (simp; done) | (simp; omega)) _))).cell l0, (show Ext wr _ by (show Ext _ _; repeat (first | with_reducible (refine Hid.out ?_; assumption) | with_reducible exact Ext.refl _ | with_reducible refine Ext.ext ?_ _ | with_reducible refine Ext.alloc ?_ _ | with_reducible refine Ext.drew ?_ | with_reducible refine Ext.setCell ?_ (by (try dsimp only); first | omega | (simp; done) | (simp; omega)) _))).cell l1, (show Ext wr _ by (show Ext _ _; repeat (first | with_reducible (refine Hid.out ?_; assumption) | with_reducible exact Ext.refl _ | with_reducible refine Ext.ext ?_ _ | with_reducible refine Ext.alloc ?_ _ | with_reducible refine Ext.drew ?_ | with_reducible refine Ext.setCell ?_ (by (try dsimp only); first | omega | (simp; done) | (simp; omega)) _))).cell l2⟩, (show Ext wr _ by (show Ext _ _; repeat (first | with_reducible (refine Hid.out ?_; assumption) | with_reducible exact Ext.refl _ | with_reducible refine Ext.ext ?_ _ | with_reducible refine Ext.alloc ?_ _ | with_reducible refine Ext.drew ?_ | with_reducible refine Ext.setCell ?_ (by (try dsimp only); first | omega | (simp; done) | (simp; omega)) _))).cell k0⟩) (fun hHeld => ?_)
        clear hOld hK K
        (try simp only [Act.put, List.setIfInBounds_toArray, List.set_cons_zero, List.set_cons_succ])
        refine take_met 7 (oi := ⟨_, _, _, _, _, _⟩) (v := ?_) (by kernel_rfl) rfl (by rfl) (fun _ _ _ h => h) (by assumption) ?_ ?_
        rotate_left 1
        · intro w hSw
          try dsimp only at hSw
          go_simp
          try with_reducible rfl
        (try simp only [Act.put, List.setIfInBounds_toArray, List.set_cons_zero, List.set_cons_succ])
        refine take_met 8 (oi := ⟨_, _, _, _, _, _⟩) (v := ?_) (by kernel_rfl) rfl (by rfl) (fun _ _ _ h => h) (by assumption) ?_ ?_
        rotate_left 1
        · intro w hSw
          try dsimp only at hSw
          go_simp
          try with_reducible rfl
        (try simp only [Act.put, List.setIfInBounds_toArray, List.set_cons_zero, List.set_cons_succ])
        refine take_met 9 (oi := ⟨_, _, _, _, _, _⟩) (v := ?_) (by kernel_rfl) rfl (by rfl) (fun _ _ _ h => h) (by assumption) ?_ ?_
        rotate_left 1
        · intro w hSw
          try dsimp only at hSw
          go_simp
          try with_reducible rfl
        (try simp only [Act.put, List.setIfInBounds_toArray, List.set_cons_zero, List.set_cons_succ])
        refine take_only 11 (oi := ⟨_, _, _, _, _, _⟩) (by kernel_rfl) rfl (fun K hK => ?_)
        go_simp
        have hOld := hHeld
        clear hHeld
        refine hK.out _ _ (by exact ⟨⟨(show Ext wr _ by (show Ext _ _; repeat (first | with_reducible (refine Hid.out ?_; assumption) | with_reducible exact Ext.refl _ | with_reducible refine Ext.ext ?_ _ | with_reducible refine Ext.alloc ?_ _ | with_reducible refine Ext.drew ?_ | with_reducible refine Ext.setCell ?_ (by (try dsimp only); first | omega | (simp; done) | (simp; omega)) _))).cell l0, (show Ext wr _ by (show Ext _ _; repeat (first | with_reducible (refine Hid.out ?_; assumption) | with_reducible exact Ext.refl _ | with_reducible refine Ext.ext ?_ _ | with_reducible refine Ext.alloc ?_ _ | with_reducible refine Ext.drew ?_ | with_reducible refine Ext.setCell ?_ (by (try dsimp only); first | omega | (simp; done) | (simp; omega)) _))).cell l1, (show Ext wr _ by (show Ext _ _; repeat (first | with_reducible (refine Hid.out ?_; assumption) | with_reducible exact Ext.refl _ | with_reducible refine Ext.ext ?_ _ | with_reducible refine Ext.alloc ?_ _ | with_reducible refine Ext.drew ?_ | with_reducible refine Ext.setCell ?_ (by (try dsimp only); first | omega | (simp; done) | (simp; omega)) _))).cell l2⟩, (show Ext wr _ by (show Ext _ _; repeat (first | with_reducible (refine Hid.out ?_; assumption) | with_reducible exact Ext.refl _ | with_reducible refine Ext.ext ?_ _ | with_reducible refine Ext.alloc ?_ _ | with_reducible refine Ext.drew ?_ | with_reducible refine Ext.setCell ?_ (by (try dsimp only); first | omega | (simp; done) | (simp; omega)) _))).cell k0⟩) (fun hHeld => ?_)
        clear hOld hK K
        (try simp only [Act.put, List.setIfInBounds_toArray, List.set_cons_zero, List.set_cons_succ])
        refine take_met 12 (oi := ⟨_, _, _, _, _, _⟩) (v := ?_) (by kernel_rfl) rfl (by rfl) (fun _ _ _ h => h) (by assumption) ?_ ?_
        rotate_left 1
        · intro w hSw
          try dsimp only at hSw
          go_simp
          try with_reducible rfl
        (try simp only [Act.put, List.setIfInBounds_toArray, List.set_cons_zero, List.set_cons_succ])
        refine wpAnyH_done (by kernel_rfl) ?_ _
        go_wp2_with fail
        go_meet
        exact ⟨_, rfl, rfl, by (show Blk _ _ _; repeat (first | with_reducible (refine Hid.out ?_; assumption) | with_reducible apply Blk.drew | with_reducible apply Blk.ext | ((with_reducible refine Blk.new _ _ rfl ?_); first | with_reducible rfl | focus (simp; done)) | ((with_reducible apply Blk.newE); first | with_reducible rfl | focus (simp; done)) | with_reducible apply Blk.alloc | with_reducible assumption | with_reducible apply Blk.setE | ((with_reducible refine Blk.other' ?_ ?_); first | omega | (simp; omega)) | (show List.set _ _ _ = _; exact rfl) | focus (show _ < List.length _; simp; done))), by (show Ext _ _; repeat (first | with_reducible (refine Hid.out ?_; assumption) | with_reducible exact Ext.refl _ | with_reducible refine Ext.ext ?_ _ | with_reducible refine Ext.alloc ?_ _ | with_reducible refine Ext.drew ?_ | with_reducible refine Ext.setCell ?_ (by (try dsimp only); first | omega | (simp; done) | (simp; omega)) _)), by omega⟩
      refine AllReadyH.cons (o := ⟨_, _, _, _, _, _⟩) rfl (fun K hK => ?_) AllReadyH.nil
      go_simp
      have hOld := hHeld
      clear hHeld
      refine hK.out _ _ (by exact ⟨⟨(show Ext wr _ by (show Ext _ _; repeat (first | with_reducible (refine Hid.out ?_; assumption) | with_reducible exact Ext.refl _ | with_reducible refine Ext.ext ?_ _ | with_reducible refine Ext.alloc ?_ _ | with_reducible refine Ext.drew ?_ | with_reducible refine Ext.setCell ?_ (by (try dsimp only); first | omega | (simp; done) | (simp; omega)) _))).cell l0, (show Ext wr _ by (show Ext _ _; repeat (first | with_reducible (refine Hid.out ?_; assumption) | with_reducible exact Ext.refl _ | with_reducible refine Ext.ext ?_ _ | with_reducible refine Ext.alloc ?_ _ | with_reducible refine Ext.drew ?_ | with_reducible refine Ext.setCell ?_ (by (try dsimp only); first | omega | (simp; done) | (simp; omega)) _))).cell l1, (show Ext wr _ by (show Ext _ _; repeat (first | with_reducible (refine Hid.out ?_; assumption) | with_reducible exact Ext.refl _ | with_reducible refine Ext.ext ?_ _ | with_reducible refine Ext.alloc ?_ _ | with_reducible refine Ext.drew ?_ | with_reducible refine Ext.setCell ?_ (by (try dsimp only); first | omega | (simp; done) | (simp; omega)) _))).cell l2⟩, (show Ext wr _ by (show Ext _ _; repeat (first | with_reducible (refine Hid.out ?_; assumption) | with_reducible exact Ext.refl _ | with_reducible refine Ext.ext ?_ _ | with_reducible refine Ext.alloc ?_ _ | with_reducible refine Ext.drew ?_ | with_reducible refine Ext.setCell ?_ (by (try dsimp only); first | omega | (simp; done) | (simp; omega)) _))).cell k0⟩) (fun hHeld => ?_)
      clear hOld hK K
      (try simp only [Act.put, List.setIfInBounds_toArray, List.set_cons_zero, List.set_cons_succ])
      refine take_only 3 (oi := ⟨_, _, _, _, _, _⟩) (by kernel_rfl) rfl (fun K hK => ?_)
      go_simp
      first
        | (go_at_call 12; refine (record_any 3 8 0 ((q : Int) + 1) _ (HS.out.of (HXw.out.trans (by (show Ext _ _; repeat (first | with_reducible (refine Hid.out ?_; assumption) | with_reducible exact Ext.refl _ | with_reducible refine Ext.ext ?_ _ | with_reducible refine Ext.alloc ?_ _ | refine Ext.drew ?_ | refine Ext.drewN ?_ _ | exact Ext.refl _)))))).mono ?_; rintro e w' ⟨rfl, r7, rfl⟩; rw [HP2.out])
      have hOld := hHeld
      clear hHeld
      refine hK.out _ _ (by exact ⟨⟨(show Ext wr _ by (show Ext _ _; repeat (first | with_reducible (refine Hid.out ?_; assumption) | with_reducible exact Ext.refl _ | with_reducible refine Ext.ext ?_ _ | with_reducible refine Ext.alloc ?_ _ | with_reducible refine Ext.drew ?_ | with_reducible refine Ext.setCell ?_ (by (try dsimp only); first | omega | (simp; done) | (simp; omega)) _))).cell l0, (show Ext wr _ by (show Ext _ _; repeat (first | with_reducible (refine Hid.out ?_; assumption) | with_reducible exact Ext.refl _ | with_reducible refine Ext.ext ?_ _ | with_reducible refine Ext.alloc ?_ _ | with_reducible refine Ext.drew ?_ | with_reducible refine Ext.setCell ?_ (by (try dsimp only); first | omega | (simp; done) | (simp; omega)) _))).cell l1, (show Ext wr _ by (show Ext _ _; repeat (first | with_reducible (refine Hid.out ?_; assumption) | with_reducible exact Ext.refl _ | with_reducible refine Ext.ext ?_ _ | with_reducible refine Ext.alloc ?_ _ | with_reducible refine Ext.drew ?_ | with_reducible refine Ext.setCell ?_ (by (try dsimp only); first | omega | (simp; done) | (simp; omega)) _))).cell l2⟩, (show Ext wr _ by (show Ext _ _; repeat (first | with_reducible (refine Hid.out ?_; assumption) | with_reducible exact Ext.refl _ | with_reducible refine Ext.ext ?_ _ | with_reducible refine Ext.alloc ?_ _ | with_reducible refine Ext.drew ?_ | with_reducible refine Ext.setCell ?_ (by (try dsimp only); first | omega | (simp; done) | (simp; omega)) _))).cell k0⟩) (fun hHeld => ?_)
      clear hOld hK K
      (try simp only [Act.put, List.setIfInBounds_toArray, List.set_cons_zero, List.set_cons_succ])
      refine take_met 5 (oi := ⟨_, _, _, _, _, _⟩) (v := ?_) (by kernel_rfl) rfl (by rfl) (fun _ _ _ h => h) (by assumption) ?_ ?_
      rotate_left 1
      · intro w hSw
        try dsimp only at hSw
        go_simp
        try with_reducible rfl
      (try simp only [Act.put, List.setIfInBounds_toArray, List.set_cons_zero, List.set_cons_succ])
      refine take_only 6 (oi := ⟨_, _, _, _, _, _⟩) (by kernel_rfl) rfl (fun K hK => ?_)
      go_simp
      first
        | (go_at_call 23; refine (mat_any L1 _ ((p : Int) + j) _ (HMY.out.of wdE_len (HX.out.trans (by (show Ext _ _; repeat (first | with_reducible (refine Hid.out ?_; assumption) | with_reducible exact Ext.refl _ | with_reducible refine Ext.ext ?_ _ | with_reducible refine Ext.alloc ?_ _ | refine Ext.drew ?_ | refine Ext.drewN ?_ _ | exact Ext.refl _)))))).mono ?_; rintro e w' ⟨rfl, r8, rfl⟩; rw [HA.out]; dsimp only)
      have hOld := hHeld
      clear hHeld
      refine hK.out _ _ (by exact ⟨⟨(show Ext wr _ by (show Ext _ _; repeat (first | with_reducible (refine Hid.out ?_; assumption) | with_reducible exact Ext.refl _ | with_reducible refine Ext.ext ?_ _ | with_reducible refine Ext.alloc ?_ _ | with_reducible refine Ext.drew ?_ | with_reducible refine Ext.setCell ?_ (by (try dsimp only); first | omega | (simp; done) | (simp; omega)) _))).cell l0, (show Ext wr _ by (show Ext _ _; repeat (first | with_reducible (refine Hid.out ?_; assumption) | with_reducible exact Ext.refl _ | with_reducible refine Ext.ext ?_ _ | with_reducible refine Ext.alloc ?_ _ | with_reducible refine Ext.drew ?_ | with_reducible refine Ext.setCell ?_ (by (try dsimp only); first | omega | (simp; done) | (simp; omega)) _))).cell l1, (show Ext wr _ by (show Ext _ _; repeat (first | with_reducible (refine Hid.out ?_; assumption) | with_reducible exact Ext.refl _ | with_reducible refine Ext.ext ?_ _ | with_reducible refine Ext.alloc ?_ _ | with_reducible refine Ext.drew ?_ | with_reducible refine Ext.setCell ?_ (by (try dsimp only); first | omega | (simp; done) | (simp; omega)) _))).cell l2⟩, (show Ext wr _ by (show Ext _ _; repeat (first | with_reducible (refine Hid.out ?_; assumption) | with_reducible exact Ext.refl _ | with_reducible refine Ext.ext ?_ _ | with_reducible refine Ext.alloc ?_ _ | with_reducible refine Ext.drew ?_ | with_reducible refine Ext.setCell ?_ (by (try dsimp only); first | omega | (simp; done) | (simp; omega)) _))).cell k0⟩) (fun hHeld => ?_)
      clear hOld hK K
      (try simp only [Act.put, List.setIfInBounds_toArray, List.set_cons_zero, List.set_cons_succ])
      refine take_met 7 (oi := ⟨_, _, _, _, _, _⟩) (v := ?_) (by kernel_rfl) rfl (by rfl) (fun _ _ _ h => h) (by assumption) ?_ ?_
      rotate_left 1
      · intro w hSw
        try dsimp only at hSw
        go_simp
        try with_reducible rfl
      (try simp only [Act.put, List.setIfInBounds_toArray, List.set_cons_zero, List.set_cons_succ])
      refine take_met 8 (oi := ⟨_, _, _, _, _, _⟩) (v := ?_) (by kernel_rfl) rfl (by rfl) (fun _ _ _ h => h) (by assumption) ?_ ?_
      rotate_left 1
      · intro w hSw
        try dsimp only at hSw
        go_simp
        try with_reducible rfl
      (try simp only [Act.put, List.setIfInBounds_toArray, List.set_cons_zero, List.set_cons_succ])
      refine take_met 9 (oi := ⟨_, _, _, _, _, _⟩) (v := ?_) (by kernel_rfl) rfl (by rfl) (fun _ _ _ h => h) (by assumption) ?_ ?_
      rotate_left 1
      · intro w hSw
        try dsimp only at hSw
        go_simp
        try with_reducible rfl
      (try simp only [Act.put, List.setIfInBounds_toArray, List.set_cons_zero, List.set_cons_succ])
      refine take_only 11 (oi := ⟨_, _, _, _, _, _⟩) (by kernel_rfl) rfl (fun K hK => ?_)
      go_simp
      have hOld := hHeld
      clear hHeld
      refine hK.out _ _ (by exact ⟨⟨(show Ext wr _ by (show Ext _ _; repeat (first | with_reducible (refine Hid.out ?_; assumption) | with_reducible exact Ext.refl _ | with_reducible refine Ext.ext ?_ _ | with_reducible refine Ext.alloc ?_ _ | with_reducible refine Ext.drew ?_ | with_reducible refine Ext.setCell ?_ (by (try dsimp only); first | omega | (simp; done) | (simp; omega)) _))).cell l0, (show Ext wr _ by (show Ext _ _; repeat (first | with_reducible (refine Hid.out ?_; assumption) | with_reducible exact Ext.refl _ | with_reducible refine Ext.ext ?_ _ | with_reducible refine Ext.alloc ?_ _ | with_reducible refine Ext.drew ?_ | with_reducible refine Ext.setCell ?_ (by (try dsimp only); first | omega | (simp; done) | (simp; omega)) _))).cell l1, (show Ext wr _ by (show Ext _ _; repeat (first | with_reducible (refine Hid.out ?_; assumption) | with_reducible exact Ext.refl _ | with_reducible refine Ext.ext ?_ _ | with_reducible refine Ext.alloc ?_ _ | with_reducible refine Ext.drew ?_ | with_reducible refine Ext.setCell ?_ (by (try dsimp only); first | omega | (simp; done) | (simp; omega)) _))).cell l2⟩, (show Ext wr _ by (show Ext _ _; repeat (first | with_reducible (refine Hid.out ?_; assumption) | with_reducible exact Ext.refl _ | with_reducible refine Ext.ext ?_ _ | with_reducible refine Ext.alloc ?_ _ | with_reducible refine Ext.drew ?_ | with_reducible refine Ext.setCell ?_ (by (try dsimp only); first | omega | (simp; done) | (simp; omega)) _))).cell k0⟩) (fun hHeld => ?_)
      clear hOld hK K
      (try simp only [Act.put, List.setIfInBounds_toArray, List.set_cons_zero, List.set_cons_succ])
      refine take_met 12 (oi := ⟨_, _, _, _, _, _⟩) (v := ?_) (by kernel_rfl) rfl (by rfl) (fun _ _ _ h => h) (by assumption) ?_ ?_
      rotate_left 1
      · intro w hSw
        try dsimp only at hSw
        go_simp
        try with_reducible rfl
      (try simp only [Act.put, List.setIfInBounds_toArray, List.set_cons_zero, List.set_cons_succ])
      refine wpAnyH_done (by kernel_rfl) ?_ _
      go_wp2_with fail
      go_meet
      exact ⟨_, rfl, rfl, by (show Blk _ _ _; repeat (first | with_reducible (refine Hid.out ?_; assumption) | with_reducible apply Blk.drew | with_reducible apply Blk.ext | ((with_reducible refine Blk.new _ _ rfl ?_); first | with_reducible rfl | focus (simp; done)) | ((with_reducible apply Blk.newE); first | with_reducible rfl | focus (simp; done)) | with_reducible apply Blk.alloc | with_reducible assumption | with_reducible apply Blk.setE | ((with_reducible refine Blk.other' ?_ ?_); first | omega | (simp; omega)) | (show List.set _ _ _ = _; exact rfl) | focus (show _ < List.length _; simp; done))), by (show Ext _ _; repeat (first | with_reducible (refine Hid.out ?_; assumption) | with_reducible exact Ext.refl _ | with_reducible refine Ext.ext ?_ _ | with_reducible refine Ext.alloc ?_ _ | with_reducible refine Ext.drew ?_ | with_reducible refine Ext.setCell ?_ (by (try dsimp only); first | omega | (simp; done) | (simp; omega)) _)), by omega⟩
    case rest =>
    obtain ⟨g2, rfl, rfl, hb2, hxw, hg2⟩ := hcut
    obtain ⟨y0, y1, y2⟩ := hb2.three
    have y4 := hb2.1
    have HX2 := hid (HX.out.trans hxw)
    have HO2 := hid (HO.out.of hxw)
    have hys := HX2.out.size
    have hln : (([n1, v1, e1].take j).map (fun u => ((u, 1, 0) : Wd))).length ≤ 3 := by simp; omega
    have HLn := hid hln
    clear hb2 hxw hln l0 l1 l2 l4 k0 k1
    go_wp2_with (at_builtin; refine ws_append rfl _ _ rfl Y (by (show Ext _ _; repeat (first | with_reducible (refine Hid.out ?_; assumption) | with_reducible exact Ext.refl _ | with_reducible refine Ext.ext ?_ _ | with_reducible refine Ext.alloc ?_ _ | refine Ext.drew ?_ | refine Ext.drewN ?_ _ | exact Ext.refl _))) (Nat.le_refl _) (by (first | exact Nat.le_refl _ | (simp; done) | (simp; omega))) rfl (Own.alloc HO2.out _) _ 1 1 rfl [(u, 1, 0)] rfl (news_new rfl _ (by (first | rfl | (simp; done)))) (by have := HLn.out; omega) ?_; rintro v9 r9 hv9; have HV9 := hid hv9; clear hv9)
    go_roundw
    case rel => exact ⟨j + 1, by omega, by go_num, hid (by rw [HAp.out]; exact HV9.out), hid (by (show Ext _ _; repeat (first | with_reducible (refine Hid.out ?_; assumption) | with_reducible exact Ext.refl _ | with_reducible refine Ext.ext ?_ _ | with_reducible refine Ext.alloc ?_ _ | refine Ext.drew ?_ | refine Ext.drewN ?_ _ | exact Ext.refl _)))⟩
    case measure => simp [intOf]; omega
  obtain rfl : j = 3 := by omega
  have hwas : (([n1, v1, e1].take 3).map (fun u => ((u, 1, 0) : Wd))) = [(n1, 1, 0), (v1, 1, 0), (e1, 1, 0)] := rfl
  rw [hwas] at HO
  obtain ⟨ao, co, rfl⟩ := Own.shape HO.out
  have hl3 : ([(n1, 1, 0), (v1, 1, 0), (e1, 1, 0)] : List Wd).length = 3 := rfl
  rw [hl3] at HO ⊢
  have HSo := hid (show Sl wr 3 wdE (.slice ao 3 co) [(n1, 1, 0), (v1, 1, 0), (e1, 1, 0)] from Sl.of_own wdE_len HO.out)
  have hw1 : WdOk (n1, 1, 0) := ⟨HN1.out, ⟨by dsimp only; omega, by dsimp only; omega⟩, ⟨by dsimp only; omega, by dsimp only; omega⟩⟩
  have hw2 : WdOk (v1, 1, 0) := ⟨HV1.out, ⟨by dsimp only; omega, by dsimp only; omega⟩, ⟨by dsimp only; omega, by dsimp only; omega⟩⟩
  have hw3 : WdOk (e1, 1, 0) := ⟨⟨by dsimp only; omega, by dsimp only; omega⟩, ⟨by dsimp only; omega, by dsimp only; omega⟩, ⟨by dsimp only; omega, by dsimp only; omega⟩⟩
  have HWo := hid (show ∀ a ∈ ([(n1, 1, 0), (v1, 1, 0), (e1, 1, 0)] : List Wd), WdOk a by
    intro a ha
    simp only [List.mem_cons, List.not_mem_nil, or_false] at ha
    rcases ha with rfl | rfl | rfl
    · exact hw1
    · exact hw2
    · exact hw3)
  have HEO2 := hid (fun e he => recE_ok (p := p) ⟨by omega, by omega⟩ hw1 hw2 hw3 (n := n2) (err := e2) (val := v2) HN2.out ⟨by omega, by omega⟩ HV2.out e he)
  obtain ⟨b0, b1, b2⟩ := (HByY.out.of HX.out).three
  have b4 := (HByY.out.of HX.out).1
  obtain ⟨c0, c1, c2⟩ := (HBxY.out.of HX.out).three
  have c4 := (HBxY.out.of HX.out).1
  clear hwas HO hl3 hw1 hw2 hw3 hj hj3
  go_wp2_with fail
  refine (dent_any 3 8 0 ((q : Int) + 1) [(n1, 1, 0), (v1, 1, 0), (e1, 1, 0)] _ HWo.out n2 e2 v2 HN2.out ⟨by omega, by omega⟩ HV2.out _ (HS.out.of (HXw.out.trans (by (show Ext _ _; repeat (first | with_reducible (refine Hid.out ?_; assumption) | with_reducible exact Ext.refl _ | with_reducible refine Ext.ext ?_ _ | with_reducible refine Ext.alloc ?_ _ | refine Ext.drew ?_ | refine Ext.drewN ?_ _ | exact Ext.refl _))))) (HSo.out.of wdE_len (by (show Ext _ _; repeat (first | with_reducible (refine Hid.out ?_; assumption) | with_reducible exact Ext.refl _ | with_reducible refine Ext.ext ?_ _ | with_reducible refine Ext.alloc ?_ _ | refine Ext.drew ?_ | refine Ext.drewN ?_ _ | exact Ext.refl _))))).mono ?_
  rintro y w' ⟨v20, rfl, ⟨r9, rfl⟩, hv20⟩
  by_cases hn2 : n2 < 1
  · rw [dent_value check24 HP.out (by omega) (.inl hn2)] at hv20 ⊢
    dsimp only at hv20 ⊢
    obtain ⟨a20, c20, rfl⟩ := Own.shape hv20
    simp only [List.length_nil]
    clear hv20
    go_wp2_with fail
    go_ret
    exact ⟨rfl, HXw.out.trans (by (show Ext _ _; repeat (first | with_reducible (refine Hid.out ?_; assumption) | with_reducible exact Ext.refl _ | with_reducible refine Ext.ext ?_ _ | with_reducible refine Ext.alloc ?_ _ | refine Ext.drew ?_ | refine Ext.drewN ?_ _ | exact Ext.refl _)))⟩
  by_cases hn3 : n2 ≤ n1
  · rw [dent_order check24 HP.out (by omega) (by omega) ⟨by omega, by omega⟩ hn3] at hv20 ⊢
    dsimp only at hv20 ⊢
    obtain ⟨a20, c20, rfl⟩ := Own.shape hv20
    simp only [List.length_nil]
    clear hv20
    go_wp2_with fail
    go_ret
    exact ⟨rfl, HXw.out.trans (by (show Ext _ _; repeat (first | with_reducible (refine Hid.out ?_; assumption) | with_reducible exact Ext.refl _ | with_reducible refine Ext.ext ?_ _ | with_reducible refine Ext.alloc ?_ _ | refine Ext.drew ?_ | refine Ext.drewN ?_ _ | exact Ext.refl _)))⟩
  rw [dent_good check24 HP.out (by omega) (by omega) (by omega) ⟨by omega, by omega⟩ (by dsimp only; omega) rfl rfl rfl (by simp) (by simp) (by simp)] at hv20 ⊢
  dsimp only at hv20 ⊢
  obtain ⟨a20, c20, rfl⟩ := Own.shape hv20
  have hl3 : (recE (p : Int) (n1, 1, 0) (v1, 1, 0) (e1, 1, 0) n2 e2 v2).length = 3 := rfl
  rw [hl3] at hv20 ⊢
  have HS2 := hid (show swapN L1 (recE p (n1, 1, 0) (v1, 1, 0) (e1, 1, 0) n2 e2 v2) = (rec3 L1 p (n2, 2, 0) (v2, 2, 0) (e2, 2, 0), true, 0) from rec_swap (by have := HLen1.out; omega) (by have := HLen1.out; omega) HG0.out HG1.out HG2.out rfl rfl rfl (by simp) (by simp) (by simp))
  obtain ⟨L2, hL2⟩ : ∃ L, L = rec3 L1 p (n2, 2, 0) (v2, 2, 0) (e2, 2, 0) := ⟨_, rfl⟩
  rw [← hL2] at HS2
  have HLen2 := hid (show L2.length = 376 by rw [hL2, rec3_len]; exact HLen1.out)
  have g20 : L2[p]? = some (n2, 2, 0) := by rw [hL2, rec3_get _ _ _ _ _ (by have := HLen1.out; omega), if_pos rfl]
  have HS3 := hid (show swapN L2 (recE p (n1, 1, 0) (v1, 1, 0) (e1, 1, 0) n2 e2 v2) = (L2, false, 0) from rec_fail (by have := HLen2.out; omega) (by have := HLen2.out; omega) g20 (by simp) rfl rfl rfl (by simp) (by simp) (by simp))
  have HA2 := hid (atW_some g20)
  generalize hZ : ext _ r9 = Z at *
  have HEZ := hid (show Ext wr Z by rw [← hZ]; (show Ext _ _; repeat (first | with_reducible (refine Hid.out ?_; assumption) | with_reducible exact Ext.refl _ | with_reducible refine Ext.ext ?_ _ | with_reducible refine Ext.alloc ?_ _ | refine Ext.drew ?_ | refine Ext.drewN ?_ _ | exact Ext.refl _)))
  have HEZw := hid (HXw.out.trans HEZ.out)
  have HE2 := hid (show Es Z (.slice a20 3 c20) (recE p (n1, 1, 0) (v1, 1, 0) (e1, 1, 0) n2 e2 v2) from Sl.of_own enE_len hv20)
  have HYZ := hid (HX.out.trans HEZ.out)
  clear hZ hv20 hl3 hL2 g20 l0 l1 l2 l4 k0 k1 b0 b1 b2 b4 c0 c1 c2 c4
  obtain ⟨b0, b1, b2⟩ := (HByY.out.of HYZ.out).three
  have b4 := (HByY.out.of HYZ.out).1
  obtain ⟨c0, c1, c2⟩ := (HBxY.out.of HYZ.out).three
  have c4 := (HBxY.out.of HYZ.out).1
  have k0 := (HB1.out.of HYZ.out).2.2 0 _ rfl
  have k1 := (HB1.out.of HYZ.out).1
  have hd1 : decide (n2 < 1) = false := decide_eq_false hn2
  have hd2 : decide (n2 ≤ n1) = false := decide_eq_false hn3
  go_wp2_with fail
  refine (swap_any L1 (recE p (n1, 1, 0) (v1, 1, 0) (e1, 1, 0) n2 e2 v2) _ _ _ (by rw [HLen1.out]; omega) HEO2.out (HMY.out.of wdE_len (HYZ.out.trans (by (show Ext _ _; repeat (first | with_reducible (refine Hid.out ?_; assumption) | with_reducible exact Ext.refl _ | with_reducible refine Ext.ext ?_ _ | with_reducible refine Ext.alloc ?_ _ | refine Ext.drew ?_ | refine Ext.drewN ?_ _ | exact Ext.refl _))))) (HE2.out.of enE_len (by (show Ext _ _; repeat (first | with_reducible (refine Hid.out ?_; assumption) | with_reducible exact Ext.refl _ | with_reducible refine Ext.ext ?_ _ | with_reducible refine Ext.alloc ?_ _ | refine Ext.drew ?_ | refine Ext.drewN ?_ _ | exact Ext.refl _))))).mono ?_
  rintro e w' ⟨v21, rfl, ⟨r10, rfl⟩, hv21⟩
  rw [HS2.out] at hv21 ⊢
  dsimp only at hv21 ⊢
  have hM2 := hv21
  obtain ⟨a21, c21, rfl, _, _⟩ := hv21
  rw [HLen2.out] at hM2 ⊢
  have HM2 := hid hM2
  clear hM2
  go_wp2_with fail
  refine (swap_any L2 (recE p (n1, 1, 0) (v1, 1, 0) (e1, 1, 0) n2 e2 v2) _ _ _ (by rw [HLen2.out]; omega) HEO2.out (HM2.out.of wdE_len (by (show Ext _ _; repeat (first | with_reducible (refine Hid.out ?_; assumption) | with_reducible exact Ext.refl _ | with_reducible refine Ext.ext ?_ _ | with_reducible refine Ext.alloc ?_ _ | refine Ext.drew ?_ | refine Ext.drewN ?_ _ | exact Ext.refl _)))) (HE2.out.of enE_len (by (show Ext _ _; repeat (first | with_reducible (refine Hid.out ?_; assumption) | with_reducible exact Ext.refl _ | with_reducible refine Ext.ext ?_ _ | with_reducible refine Ext.alloc ?_ _ | refine Ext.drew ?_ | refine Ext.drewN ?_ _ | exact Ext.refl _))))).mono ?_
  rintro e w' ⟨v24, rfl, ⟨r11, rfl⟩, hv24⟩
  rw [HS3.out] at hv24 ⊢
  dsimp only at hv24 ⊢
  obtain ⟨a24, c24, rfl, _, _⟩ := hv24
  go_upto_region 27 with fail
  generalize hK2 : World.alloc _ _ = Q
  have HEQ := hid (show Ext Z Q by rw [← hK2]; (show Ext _ _; repeat (first | with_reducible (refine Hid.out ?_; assumption) | with_reducible exact Ext.refl _ | with_reducible refine Ext.ext ?_ _ | with_reducible refine Ext.alloc ?_ _ | refine Ext.drew ?_ | refine Ext.drewN ?_ _ | exact Ext.refl _)))
  have HEQw := hid (HEZw.out.trans HEQ.out)
  have HM2Q := hid (HM2.out.of wdE_len (show Ext _ Q by rw [← hK2]; (show Ext _ _; repeat (first | with_reducible (refine Hid.out ?_; assumption) | with_reducible exact Ext.refl _ | with_reducible refine Ext.ext ?_ _ | with_reducible refine Ext.alloc ?_ _ | refine Ext.drew ?_ | refine Ext.drewN ?_ _ | exact Ext.refl _))))
  have HB2 := hid (show Blk Q (Z.heap.size + r10.new.size) [.slice a21 376 c21] by rw [← hK2]; (show Blk _ _ _; repeat (first | with_reducible (refine Hid.out ?_; assumption) | with_reducible refine Blk.drew ?_ | with_reducible refine Blk.ext ?_ _ | (with_reducible refine Blk.new _ _ rfl ?_; first | with_reducible rfl | (simp; done)) | with_reducible refine Blk.alloc ?_ _ | with_reducible assumption | with_reducible apply Blk.setE | (with_reducible refine Blk.other' ?_ ?_; first | omega | (simp; omega)) | (show List.set _ _ _ = _; exact rfl) | (show _ < List.length _; simp; done))))
  have HBlQ := hid ((HBlY.out.of HYZ.out).of HEQ.out)
  have HByQ := hid ((HByY.out.of HYZ.out).of HEQ.out)
  generalize Z.heap.size + r10.new.size = nz at *
  clear hK2 b0 b1 b2 b4 c0 c1 c2 c4 k0 k1
  go_cut [27] (fun a27 wx => ∃ g2 : Nat, a27 = .pointer (some ⟨g2, 0, none⟩) ∧ Blk wx g2 [.int .i64 n2, .int .u32 2, .int .u32 0] ∧ Ext Q wx)
  case first =>
    refine wp_region_held_drew (S := fun w' => (w'.cell? ⟨nl, 0, none⟩ = some (.int .i64 3) ∧ w'.cell? ⟨nl, 1, none⟩ = some (.int .i64 8) ∧ w'.cell? ⟨nl, 2, none⟩ = some (.int .i64 0)) ∧ w'.cell? ⟨nz, 0, none⟩ = some (.slice a21 376 c21)) (by kernel_rfl) (by exact ⟨(HBlQ.out.of (show Ext Q _ by (show Ext _ _; repeat (first | with_reducible (refine Hid.out ?_; assumption) | with_reducible exact Ext.refl _ | with_reducible refine Ext.ext ?_ _ | with_reducible refine Ext.alloc ?_ _ | with_reducible refine Ext.drew ?_ | with_reducible refine Ext.setCell ?_ (by (try dsimp only); first | omega | (simp; done) | (simp; omega)) _)))).three, (HB2.out.of (show Ext Q _ by (show Ext _ _; repeat (first | with_reducible (refine Hid.out ?_; assumption) | with_reducible exact Ext.refl _ | with_reducible refine Ext.ext ?_ _ | with_reducible refine Ext.alloc ?_ _ | with_reducible refine Ext.drew ?_ | with_reducible refine Ext.setCell ?_ (by (try dsimp only); first | omega | (simp; done) | (simp; omega)) _)))).2.2 0 _ rfl⟩) (fun hHeld => ?_)
    refine take_met 0 (oi := ⟨_, _, _, _, _, _⟩) (v := ?_) (by kernel_rfl) rfl (by rfl) (fun _ _ _ h => h) (by assumption) ?_ ?_
    rotate_left 1
    · intro w hSw
      try dsimp only at hSw
      go_simp
      try with_reducible rfl
    (try simp only [Act.put, List.setIfInBounds_toArray, List.set_cons_zero, List.set_cons_succ])
    refine take_met 1 (oi := ⟨_, _, _, _, _, _⟩) (v := ?_) (by kernel_rfl) rfl (by rfl) (fun _ _ _ h => h) (by assumption) ?_ ?_
    rotate_left 1
    · intro w hSw
      try dsimp only at hSw
      go_simp
      try with_reducible rfl
    (try simp only [Act.put, List.setIfInBounds_toArray, List.set_cons_zero, List.set_cons_succ])
    refine take_met 2 (oi := ⟨_, _, _, _, _, _⟩) (v := ?_) (by kernel_rfl) rfl (by rfl) (fun _ _ _ h => h) (by assumption) ?_ ?_
    rotate_left 1
    · intro w hSw
      try dsimp only at hSw
      go_simp
      try with_reducible rfl
    (try simp only [Act.put, List.setIfInBounds_toArray, List.set_cons_zero, List.set_cons_succ])
    refine wpAnyH_ready (rs := [3, 8]) (by kernel_rfl) (by simp) ?_
    refine AllReadyH.cons (o := ⟨_, _, _, _, _, _⟩) rfl (fun K hK => ?_) ?_
    · skip
      go_simp
      first
        | (go_at_call 12; refine (record_any 3 8 0 ((q : Int) + 1) _ (HS.out.of (HEQw.out.trans (by (show Ext _ _; repeat (first | with_reducible (refine Hid.out ?_; assumption) | with_reducible exact Ext.refl _ | with_reducible refine Ext.ext ?_ _ | with_reducible refine Ext.alloc ?_ _ | refine Ext.drew ?_ | refine Ext.drewN ?_ _ | exact Ext.refl _)))))).mono ?_; rintro e w' ⟨rfl, r12, rfl⟩; rw [HP2.out])
      have hOld := hHeld
      clear hHeld
      refine hK.out _ _ (by exact ⟨(HBlQ.out.of (show Ext Q _ by (show Ext _ _; repeat (first | with_reducible (refine Hid.out ?_; assumption) | with_reducible exact Ext.refl _ | with_reducible refine Ext.ext ?_ _ | with_reducible refine Ext.alloc ?_ _ | with_reducible refine Ext.drew ?_ | with_reducible refine Ext.setCell ?_ (by (try dsimp only); first | omega | (simp; done) | (simp; omega)) _)))).three, (HB2.out.of (show Ext Q _ by (show Ext _ _; repeat (first | with_reducible (refine Hid.out ?_; assumption) | with_reducible exact Ext.refl _ | with_reducible refine Ext.ext ?_ _ | with_reducible refine Ext.alloc ?_ _ | with_reducible refine Ext.drew ?_ | with_reducible refine Ext.setCell ?_ (by (try dsimp only); first | omega | (simp; done) | (simp; omega)) _)))).2.2 0 _ rfl⟩) (fun hHeld => ?_)
      clear hOld hK K
      (try simp only [Act.put, List.setIfInBounds_toArray, List.set_cons_zero, List.set_cons_succ])
      refine wpAnyH_ready (rs := [4, 8]) (by kernel_rfl) (by simp) ?_
      refine AllReadyH.cons (o := ⟨_, _, _, _, _, _⟩) rfl (fun K hK => ?_) ?_
      · skip
        go_simp
        first
          | (go_at_call 23; refine (mat_any L2 _ (p : Int) _ (HM2Q.out.of wdE_len (by (show Ext _ _; repeat (first | with_reducible (refine Hid.out ?_; assumption) | with_reducible exact Ext.refl _ | with_reducible refine Ext.ext ?_ _ | with_reducible refine Ext.alloc ?_ _ | refine Ext.drew ?_ | refine Ext.drewN ?_ _ | exact Ext.refl _))))).mono ?_; rintro e w' ⟨rfl, r13, rfl⟩; rw [HA2.out]; dsimp only)
        have hOld := hHeld
        clear hHeld
        refine hK.out _ _ (by exact ⟨(HBlQ.out.of (show Ext Q _ by (show Ext _ _; repeat (first | with_reducible (refine Hid.out ?_; assumption) | with_reducible exact Ext.refl _ | with_reducible refine Ext.ext ?_ _ | with_reducible refine Ext.alloc ?_ _ | with_reducible refine Ext.drew ?_ | with_reducible refine Ext.setCell ?_ (by (try dsimp only); first | omega | (simp; done) | (simp; omega)) _)))).three, (HB2.out.of (show Ext Q _ by (show Ext _ _; repeat (first | with_reducible (refine Hid.out ?_; assumption) | with_reducible exact Ext.refl _ | with_reducible refine Ext.ext ?_ _ | with_reducible refine Ext.alloc ?_ _ | with_reducible refine Ext.drew ?_ | with_reducible refine Ext.setCell ?_ (by (try dsimp only); first | omega | (simp; done) | (simp; omega)) _)))).2.2 0 _ rfl⟩) (fun hHeld => ?_)
        clear hOld hK K
        (try simp only [Act.put, List.setIfInBounds_toArray, List.set_cons_zero, List.set_cons_succ])
        refine take_met 5 (oi := ⟨_, _, _, _, _, _⟩) (v := ?_) (by kernel_rfl) rfl (by rfl) (fun _ _ _ h => h) (by assumption) ?_ ?_
        rotate_left 1
        · intro w hSw
          try dsimp only at hSw
          go_simp
          try with_reducible rfl
        (try simp only [Act.put, List.setIfInBounds_toArray, List.set_cons_zero, List.set_cons_succ])
        refine take_met 6 (oi := ⟨_, _, _, _, _, _⟩) (v := ?_) (by kernel_rfl) rfl (by rfl) (fun _ _ _ h => h) (by assumption) ?_ ?_
        rotate_left 1
        · intro w hSw
          try dsimp only at hSw
          go_simp
          try with_reducible rfl
        (try simp only [Act.put, List.setIfInBounds_toArray, List.set_cons_zero, List.set_cons_succ])
        refine take_met 7 (oi := ⟨_, _, _, _, _, _⟩) (v := ?_) (by kernel_rfl) rfl (by rfl) (fun _ _ _ h => h) (by assumption) ?_ ?_
        rotate_left 1
        · intro w hSw
          try dsimp only at hSw
          go_simp
          try with_reducible rfl
        (try simp only [Act.put, List.setIfInBounds_toArray, List.set_cons_zero, List.set_cons_succ])
        refine take_only 8 (oi := ⟨_, _, _, _, _, _⟩) (by kernel_rfl) rfl (fun K hK => ?_)
        go_simp
        have hOld := hHeld
        clear hHeld
        refine hK.out _ _ (by exact ⟨(HBlQ.out.of (show Ext Q _ by (show Ext _ _; repeat (first | with_reducible (refine Hid.out ?_; assumption) | with_reducible exact Ext.refl _ | with_reducible refine Ext.ext ?_ _ | with_reducible refine Ext.alloc ?_ _ | with_reducible refine Ext.drew ?_ | with_reducible refine Ext.setCell ?_ (by (try dsimp only); first | omega | (simp; done) | (simp; omega)) _)))).three, (HB2.out.of (show Ext Q _ by (show Ext _ _; repeat (first | with_reducible (refine Hid.out ?_; assumption) | with_reducible exact Ext.refl _ | with_reducible refine Ext.ext ?_ _ | with_reducible refine Ext.alloc ?_ _ | with_reducible refine Ext.drew ?_ | with_reducible refine Ext.setCell ?_ (by (try dsimp only); first | omega | (simp; done) | (simp; omega)) _)))).2.2 0 _ rfl⟩) (fun hHeld => ?_)
        clear hOld hK K
        (try simp only [Act.put, List.setIfInBounds_toArray, List.set_cons_zero, List.set_cons_succ])
        refine take_only 9 (oi := ⟨_, _, _, _, _, _⟩) (by kernel_rfl) rfl (fun K hK => ?_)
        go_simp
        have hOld := hHeld
        clear hHeld
        refine hK.out _ _ (by exact ⟨(HBlQ.out.of (show Ext Q _ by (show Ext _ _; repeat (first | with_reducible (refine Hid.out ?_; assumption) | with_reducible exact Ext.refl _ | with_reducible refine Ext.ext ?_ _ | with_reducible refine Ext.alloc ?_ _ | with_reducible refine Ext.drew ?_ | with_reducible refine Ext.setCell ?_ (by (try dsimp only); first | omega | (simp; done) | (simp; omega)) _)))).three, (HB2.out.of (show Ext Q _ by (show Ext _ _; repeat (first | with_reducible (refine Hid.out ?_; assumption) | with_reducible exact Ext.refl _ | with_reducible refine Ext.ext ?_ _ | with_reducible refine Ext.alloc ?_ _ | with_reducible refine Ext.drew ?_ | with_reducible refine Ext.setCell ?_ (by (try dsimp only); first | omega | (simp; done) | (simp; omega)) _)))).2.2 0 _ rfl⟩) (fun hHeld => ?_)
        clear hOld hK K
        (try simp only [Act.put, List.setIfInBounds_toArray, List.set_cons_zero, List.set_cons_succ])
        refine take_met 10 (oi := ⟨_, _, _, _, _, _⟩) (v := ?_) (by kernel_rfl) rfl (by rfl) (fun _ _ _ h => h) (by assumption) ?_ ?_
        rotate_left 1
        · intro w hSw
          try dsimp only at hSw
          go_simp
          try with_reducible rfl
        (try simp only [Act.put, List.setIfInBounds_toArray, List.set_cons_zero, List.set_cons_succ])
        refine wpAnyH_done (by kernel_rfl) ?_ _
        go_wp2_with fail
        go_meet
        exact ⟨_, rfl, by (show Blk _ _ _; repeat (first | with_reducible (refine Hid.out ?_; assumption) | with_reducible apply Blk.drew | with_reducible apply Blk.ext | ((with_reducible refine Blk.new _ _ rfl ?_); first | with_reducible rfl | focus (simp; done)) | ((with_reducible apply Blk.newE); first | with_reducible rfl | focus (simp; done)) | with_reducible apply Blk.alloc | with_reducible assumption | with_reducible apply Blk.setE | ((with_reducible refine Blk.other' ?_ ?_); first | omega | (simp; omega)) | (show List.set _ _ _ = _; exact rfl) | focus (show _ < List.length _; simp; done))), by (show Ext _ _; repeat (first | with_reducible (refine Hid.out ?_; assumption) | with_reducible exact Ext.refl _ | with_reducible refine Ext.ext ?_ _ | with_reducible refine Ext.alloc ?_ _ | with_reducible refine Ext.drew ?_ | with_reducible refine Ext.setCell ?_ (by (try dsimp only); first | omega | (simp; done) | (simp; omega)) _))⟩
      refine AllReadyH.cons (o := ⟨_, _, _, _, _, _⟩) rfl (fun K hK => ?_) AllReadyH.nil
      go_simp
      have hOld := hHeld
      clear hHeld
      refine hK.out _ _ (by exact ⟨(HBlQ.out.of (show Ext Q _ by (show Ext _ _; repeat (first | with_reducible (refine Hid.out ?_; assumption) | with_reducible exact Ext.refl _ | with_reducible refine Ext.ext ?_ _ | with_reducible refine Ext.alloc ?_ _ | with_reducible refine Ext.drew ?_ | with_reducible refine Ext.setCell ?_ (by (try dsimp only); first | omega | (simp; done) | (simp; omega)) _)))).three, (HB2.out.of (show Ext Q _ by (show Ext _ _; repeat (first | with_reducible (refine Hid.out ?_; assumption) | with_reducible exact Ext.refl _ | with_reducible refine Ext.ext ?_ _ | with_reducible refine Ext.alloc ?_ _ | with_reducible refine Ext.drew ?_ | with_reducible refine Ext.setCell ?_ (by (try dsimp only); first | omega | (simp; done) | (simp; omega)) _)))).2.2 0 _ rfl⟩) (fun hHeld => ?_)
      clear hOld hK K
      (try simp only [Act.put, List.setIfInBounds_toArray, List.set_cons_zero, List.set_cons_succ])
      refine take_only 4 (oi := ⟨_, _, _, _, _, _⟩) (by kernel_rfl) rfl (fun K hK => ?_)
      go_simp
      first
        | (go_at_call 23; refine (mat_any L2 _ (p : Int) _ (HM2Q.out.of wdE_len (by (show Ext _ _; repeat (first | with_reducible (refine Hid.out ?_; assumption) | with_reducible exact Ext.refl _ | with_reducible refine Ext.ext ?_ _ | with_reducible refine Ext.alloc ?_ _ | refine Ext.drew ?_ | refine Ext.drewN ?_ _ | exact Ext.refl _))))).mono ?_; rintro e w' ⟨rfl, r13, rfl⟩; rw [HA2.out]; dsimp only)
      have hOld := hHeld
      clear hHeld
      refine hK.out _ _ (by exact ⟨(HBlQ.out.of (show Ext Q _ by (show Ext _ _; repeat (first | with_reducible (refine Hid.out ?_; assumption) | with_reducible exact Ext.refl _ | with_reducible refine Ext.ext ?_ _ | with_reducible refine Ext.alloc ?_ _ | with_reducible refine Ext.drew ?_ | with_reducible refine Ext.setCell ?_ (by (try dsimp only); first | omega | (simp; done) | (simp; omega)) _)))).three, (HB2.out.of (show Ext Q _ by (show Ext _ _; repeat (first | with_reducible (refine Hid.out ?_; assumption) | with_reducible exact Ext.refl _ | with_reducible refine Ext.ext ?_ _ | with_reducible refine Ext.alloc ?_ _ | with_reducible refine Ext.drew ?_ | with_reducible refine Ext.setCell ?_ (by (try dsimp only); first | omega | (simp; done) | (simp; omega)) _)))).2.2 0 _ rfl⟩) (fun hHeld => ?_)
      clear hOld hK K
      (try simp only [Act.put, List.setIfInBounds_toArray, List.set_cons_zero, List.set_cons_succ])
      refine take_met 5 (oi := ⟨_, _, _, _, _, _⟩) (v := ?_) (by kernel_rfl) rfl (by rfl) (fun _ _ _ h => h) (by assumption) ?_ ?_
      rotate_left 1
      · intro w hSw
        try dsimp only at hSw
        go_simp
        try with_reducible rfl
      (try simp only [Act.put, List.setIfInBounds_toArray, List.set_cons_zero, List.set_cons_succ])
      refine take_met 6 (oi := ⟨_, _, _, _, _, _⟩) (v := ?_) (by kernel_rfl) rfl (by rfl) (fun _ _ _ h => h) (by assumption) ?_ ?_
      rotate_left 1
      · intro w hSw
        try dsimp only at hSw
        go_simp
        try with_reducible rfl
      (try simp only [Act.put, List.setIfInBounds_toArray, List.set_cons_zero, List.set_cons_succ])
      refine take_met 7 (oi := ⟨_, _, _, _, _, _⟩) (v := ?_) (by kernel_rfl) rfl (by rfl) (fun _ _ _ h => h) (by assumption) ?_ ?_
      rotate_left 1
      · intro w hSw
        try dsimp only at hSw
        go_simp
        try with_reducible rfl
      (try simp only [Act.put, List.setIfInBounds_toArray, List.set_cons_zero, List.set_cons_succ])
      refine take_only 9 (oi := ⟨_, _, _, _, _, _⟩) (by kernel_rfl) rfl (fun K hK => ?_)
      go_simp
      have hOld := hHeld
      clear hHeld
      refine hK.out _ _ (by exact ⟨(HBlQ.out.of (show Ext Q _ by (show Ext _ _; repeat (first | with_reducible (refine Hid.out ?_; assumption) | with_reducible exact Ext.refl _ | with_reducible refine Ext.ext ?_ _ | with_reducible refine Ext.alloc ?_ _ | with_reducible refine Ext.drew ?_ | with_reducible refine Ext.setCell ?_ (by (try dsimp only); first | omega | (simp; done) | (simp; omega)) _)))).three, (HB2.out.of (show Ext Q _ by (show Ext _ _; repeat (first | with_reducible (refine Hid.out ?_; assumption) | with_reducible exact Ext.refl _ | with_reducible refine Ext.ext ?_ _ | with_reducible refine Ext.alloc ?_ _ | with_reducible refine Ext.drew ?_ | with_reducible refine Ext.setCell ?_ (by (try dsimp only); first | omega | (simp; done) | (simp; omega)) _)))).2.2 0 _ rfl⟩) (fun hHeld => ?_)
      clear hOld hK K
      (try simp only [Act.put, List.setIfInBounds_toArray, List.set_cons_zero, List.set_cons_succ])
      refine take_met 10 (oi := ⟨_, _, _, _, _, _⟩) (v := ?_) (by kernel_rfl) rfl (by rfl) (fun _ _ _ h => h) (by assumption) ?_ ?_
      rotate_left 1
      · intro w hSw
        try dsimp only at hSw
        go_simp
        try with_reducible rfl
      (try simp only [Act.put, List.setIfInBounds_toArray, List.set_cons_zero, List.set_cons_succ])
      refine wpAnyH_done (by kernel_rfl) ?_ _
      go_wp2_with fail
      go_meet
      exact ⟨_, rfl, by (show Blk _ _ _; repeat (first | with_reducible (refine Hid.out ?_; assumption) | with_reducible apply Blk.drew | with_reducible apply Blk.ext | ((with_reducible refine Blk.new _ _ rfl ?_); first | with_reducible rfl | focus (simp; done)) | ((with_reducible apply Blk.newE); first | with_reducible rfl | focus (simp; done)) | with_reducible apply Blk.alloc | with_reducible assumption | with_reducible apply Blk.setE | ((with_reducible refine Blk.other' ?_ ?_); first | omega | (simp; omega)) | (show List.set _ _ _ = _; exact rfl) | focus (show _ < List.length _; simp; done))), by (show Ext _ _; repeat (first | with_reducible (refine Hid.out ?_; assumption) | with_reducible exact Ext.refl _ | with_reducible refine Ext.ext ?_ _ | with_reducible refine Ext.alloc ?_ _ | with_reducible refine Ext.drew ?_ | with_reducible refine Ext.setCell ?_ (by (try dsimp only); first | omega | (simp; done) | (simp; omega)) _))⟩
    refine AllReadyH.cons (o := ⟨_, _, _, _, _, _⟩) rfl (fun K hK => ?_) AllReadyH.nil
    go_simp
    have hOld := hHeld
    clear hHeld
    refine hK.out _ _ (by exact ⟨(HBlQ.out.of (show Ext Q _ by (show Ext _ _; repeat (first | with_reducible (refine Hid.out ?_; assumption) | with_reducible exact Ext.refl _ | with_reducible refine Ext.ext ?_ _ | with_reducible refine Ext.alloc ?_ _ | with_reducible refine Ext.drew ?_ | with_reducible refine Ext.setCell ?_ (by (try dsimp only); first | omega | (simp; done) | (simp; omega)) _)))).three, (HB2.out.of (show Ext Q _ by (show Ext _ _; repeat (first | with_reducible (refine Hid.out ?_; assumption) | with_reducible exact Ext.refl _ | with_reducible refine Ext.ext ?_ _ | with_reducible refine Ext.alloc ?_ _ | with_reducible refine Ext.drew ?_ | with_reducible refine Ext.setCell ?_ (by (try dsimp only); first | omega | (simp; done) | (simp; omega)) _)))).2.2 0 _ rfl⟩) (fun hHeld => ?_)
    clear hOld hK K
    (try simp only [Act.put, List.setIfInBounds_toArray, List.set_cons_zero, List.set_cons_succ])
    refine take_only 3 (oi := ⟨_, _, _, _, _, _⟩) (by kernel_rfl) rfl (fun K hK => ?_)
    go_simp
    first
      | (go_at_call 12; refine (record_any 3 8 0 ((q : Int) + 1) _ (HS.out.of (HEQw.out.trans (by (show Ext _ _; repeat (first | with_reducible (refine Hid.out ?_; assumption) | with_reducible exact Ext.refl _ | with_reducible refine Ext.ext ?_ _ | with_reducible refine Ext.alloc ?_ _ | refine Ext.drew ?_ | refine Ext.drewN ?_ _ | exact Ext.refl _)))))).mono ?_; rintro e w' ⟨rfl, r12, rfl⟩; rw [HP2.out])
    have hOld := hHeld
    clear hHeld
    refine hK.out _ _ (by exact ⟨(HBlQ.out.of (show Ext Q _ by (show Ext _ _; repeat (first | with_reducible (refine Hid.out ?_; assumption) | with_reducible exact Ext.refl _ | with_reducible refine Ext.ext ?_ _ | with_reducible refine Ext.alloc ?_ _ | with_reducible refine Ext.drew ?_ | with_reducible refine Ext.setCell ?_ (by (try dsimp only); first | omega | (simp; done) | (simp; omega)) _)))).three, (HB2.out.of (show Ext Q _ by (show Ext _ _; repeat (first | with_reducible (refine Hid.out ?_; assumption) | with_reducible exact Ext.refl _ | with_reducible refine Ext.ext ?_ _ | with_reducible refine Ext.alloc ?_ _ | with_reducible refine Ext.drew ?_ | with_reducible refine Ext.setCell ?_ (by (try dsimp only); first | omega | (simp; done) | (simp; omega)) _)))).2.2 0 _ rfl⟩) (fun hHeld => ?_)
    clear hOld hK K
    (try simp only [Act.put, List.setIfInBounds_toArray, List.set_cons_zero, List.set_cons_succ])
    refine take_only 4 (oi := ⟨_, _, _, _, _, _⟩) (by kernel_rfl) rfl (fun K hK => ?_)
    go_simp
    first
      | (go_at_call 23; refine (mat_any L2 _ (p : Int) _ (HM2Q.out.of wdE_len (by (show Ext _ _; repeat (first | with_reducible (refine Hid.out ?_; assumption) | with_reducible exact Ext.refl _ | with_reducible refine Ext.ext ?_ _ | with_reducible refine Ext.alloc ?_ _ | refine Ext.drew ?_ | refine Ext.drewN ?_ _ | exact Ext.refl _))))).mono ?_; rintro e w' ⟨rfl, r13, rfl⟩; rw [HA2.out]; dsimp only)
    have hOld := hHeld
    clear hHeld
    refine hK.out _ _ (by exact ⟨(HBlQ.out.of (show Ext Q _ by (show Ext _ _; repeat (first | with_reducible (refine Hid.out ?_; assumption) | with_reducible exact Ext.refl _ | with_reducible refine Ext.ext ?_ _ | with_reducible refine Ext.alloc ?_ _ | with_reducible refine Ext.drew ?_ | with_reducible refine Ext.setCell ?_ (by (try dsimp only); first | omega | (simp; done) | (simp; omega)) _)))).three, (HB2.out.of (show Ext Q _ by (show Ext _ _; repeat (first | with_reducible (refine Hid.out ?_; assumption) | with_reducible exact Ext.refl _ | with_reducible refine Ext.ext ?_ _ | with_reducible refine Ext.alloc ?_ _ | with_reducible refine Ext.drew ?_ | with_reducible refine Ext.setCell ?_ (by (try dsimp only); first | omega | (simp; done) | (simp; omega)) _)))).2.2 0 _ rfl⟩) (fun hHeld => ?_)
    clear hOld hK K
    (try simp only [Act.put, List.setIfInBounds_toArray, List.set_cons_zero, List.set_cons_succ])
    refine take_met 5 (oi := ⟨_, _, _, _, _, _⟩) (v := ?_) (by kernel_rfl) rfl (by rfl) (fun _ _ _ h => h) (by assumption) ?_ ?_
    rotate_left 1
    · intro w hSw
      try dsimp only at hSw
      go_simp
      try with_reducible rfl
    (try simp only [Act.put, List.setIfInBounds_toArray, List.set_cons_zero, List.set_cons_succ])
    refine take_met 6 (oi := ⟨_, _, _, _, _, _⟩) (v := ?_) (by kernel_rfl) rfl (by rfl) (fun _ _ _ h => h) (by assumption) ?_ ?_
    rotate_left 1
    · intro w hSw
      try dsimp only at hSw
      go_simp
      try with_reducible rfl
    (try simp only [Act.put, List.setIfInBounds_toArray, List.set_cons_zero, List.set_cons_succ])
    refine take_met 7 (oi := ⟨_, _, _, _, _, _⟩) (v := ?_) (by kernel_rfl) rfl (by rfl) (fun _ _ _ h => h) (by assumption) ?_ ?_
    rotate_left 1
    · intro w hSw
      try dsimp only at hSw
      go_simp
      try with_reducible rfl
    (try simp only [Act.put, List.setIfInBounds_toArray, List.set_cons_zero, List.set_cons_succ])
    refine take_only 9 (oi := ⟨_, _, _, _, _, _⟩) (by kernel_rfl) rfl (fun K hK => ?_)
    go_simp
    have hOld := hHeld
    clear hHeld
    refine hK.out _ _ (by exact ⟨(HBlQ.out.of (show Ext Q _ by (show Ext _ _; repeat (first | with_reducible (refine Hid.out ?_; assumption) | with_reducible exact Ext.refl _ | with_reducible refine Ext.ext ?_ _ | with_reducible refine Ext.alloc ?_ _ | with_reducible refine Ext.drew ?_ | with_reducible refine Ext.setCell ?_ (by (try dsimp only); first | omega | (simp; done) | (simp; omega)) _)))).three, (HB2.out.of (show Ext Q _ by (show Ext _ _; repeat (first | with_reducible (refine Hid.out ?_; assumption) | with_reducible exact Ext.refl _ | with_reducible refine Ext.ext ?_ _ | with_reducible refine Ext.alloc ?_ _ | with_reducible refine Ext.drew ?_ | with_reducible refine Ext.setCell ?_ (by (try dsimp only); first | omega | (simp; done) | (simp; omega)) _)))).2.2 0 _ rfl⟩) (fun hHeld => ?_)
    clear hOld hK K
    (try simp only [Act.put, List.setIfInBounds_toArray, List.set_cons_zero, List.set_cons_succ])
    refine take_met 10 (oi := ⟨_, _, _, _, _, _⟩) (v := ?_) (by kernel_rfl) rfl (by rfl) (fun _ _ _ h => h) (by assumption) ?_ ?_
    rotate_left 1
    · intro w hSw
      try dsimp only at hSw
      go_simp
      try with_reducible rfl
    (try simp only [Act.put, List.setIfInBounds_toArray, List.set_cons_zero, List.set_cons_succ])
    refine wpAnyH_done (by kernel_rfl) ?_ _
    go_wp2_with fail
    go_meet
    exact ⟨_, rfl, by (show Blk _ _ _; repeat (first | with_reducible (refine Hid.out ?_; assumption) | with_reducible apply Blk.drew | with_reducible apply Blk.ext | ((with_reducible refine Blk.new _ _ rfl ?_); first | with_reducible rfl | focus (simp; done)) | ((with_reducible apply Blk.newE); first | with_reducible rfl | focus (simp; done)) | with_reducible apply Blk.alloc | with_reducible assumption | with_reducible apply Blk.setE | ((with_reducible refine Blk.other' ?_ ?_); first | omega | (simp; omega)) | (show List.set _ _ _ = _; exact rfl) | focus (show _ < List.length _; simp; done))), by (show Ext _ _; repeat (first | with_reducible (refine Hid.out ?_; assumption) | with_reducible exact Ext.refl _ | with_reducible refine Ext.ext ?_ _ | with_reducible refine Ext.alloc ?_ _ | with_reducible refine Ext.drew ?_ | with_reducible refine Ext.setCell ?_ (by (try dsimp only); first | omega | (simp; done) | (simp; omega)) _))⟩
  case rest =>
  obtain ⟨g2, rfl, hb2, hxw⟩ := hcut
  obtain ⟨y0, y1, y2⟩ := hb2.three
  have y4 := hb2.1
  obtain ⟨b0, b1, b2⟩ := (HByQ.out.of hxw).three
  have b4 := (HByQ.out.of hxw).1
  have hEw := hid (HEQw.out.trans hxw)
  have heq := eq_word n2 2 0 n2 2 0
  rw [wdB_self] at heq
  have hgw := eq_guard_word
  clear hb2 hxw
  go_wp2_with fail
  go_ret
  exact ⟨rfl, hEw.out.trans (by (show Ext _ _; repeat (first | with_reducible (refine Hid.out ?_; assumption) | with_reducible exact Ext.refl _ | with_reducible refine Ext.ext ?_ _ | with_reducible refine Ext.alloc ?_ _ | refine Ext.drew ?_ | refine Ext.drewN ?_ _ | exact Ext.refl _)))⟩

end Go.Proofs.YtlijgheghodfeaaDoor
