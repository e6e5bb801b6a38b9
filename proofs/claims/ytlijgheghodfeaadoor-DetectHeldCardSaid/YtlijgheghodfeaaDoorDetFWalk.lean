/- The walk of the statement DetectRefuses. -/
import Derived.Test.YtlijgheghodfeaaDoorDetAwk
namespace Go.Proofs.YtlijgheghodfeaaDoor
set_option linter.unusedSimpArgs false
set_option linter.unusedVariables false
open Go.RowKit

theorem eq_ans (a b c d : Int) (w : World) : (binOp .eql 39 (.agg #[.int .i64 a, .int .i64 b]) (.agg #[.int .i64 c, .int .i64 d])).run Tryd.prog w = .ok (.bool (decide (a = c) && decide (b = d))) w := by
  have hp : Tryd.prog.stoodInHeld 39 = false := by kernel_rfl
  rw [run_eql_struct, run_equalIn_struct w 9999 _ _ _ (by kernel_rfl) hp]
  by_cases h1 : a = c
  · by_cases h2 : b = d
    all_goals simp [Op.eqFields, Program.fieldsOf, Tryd.underlying39, go_sem, h1, h2]
  · simp [Op.eqFields, Program.fieldsOf, Tryd.underlying39, go_sem, h1]
theorem eq_guard_ans (op : BinOp) (x y : Operand) (xs ys : Array Value) (w : World) : (eqGuard op 39 x y (.agg xs) (.agg ys)).run Tryd.prog w = .ok () w :=
  run_eqGuard_agg w op _ x y xs ys (by kernel_rfl)

theorem recE_check {p : Int} (h0 : 0 ≤ p) (h1 : p + 3 ≤ 4096) {x y z : Wd} (hx : x.2.2 = 0) (hy : y.2.2 = 0) (hz : z.2.2 = 0) (vx : x.2.1 ≠ 4294967295) (vy : y.2.1 ≠ 4294967295) (vz : z.2.1 ≠ 4294967295) (n err val : Int) : checkE (recE p x y z n err val) = 0 := by
  have k0 : ¬ (p < 0 ∨ 4096 ≤ p) := by omega
  have k1 : ¬ (p + 1 < 0 ∨ 4096 ≤ p + 1) := by omega
  have k2 : ¬ (p + 2 < 0 ∨ 4096 ≤ p + 2) := by omega
  have e1 : (p == p + 1) = false := beq_eq_false_iff_ne.2 (by omega)
  have e2 : (p == p + 2) = false := beq_eq_false_iff_ne.2 (by omega)
  have e3 : (p + 1 == p + 2) = false := beq_eq_false_iff_ne.2 (by omega)
  unfold checkE recE
  simp only [List.length_cons, List.length_nil, checkGo, wrongN, k0, k1, k2, hx, hy, hz, vx, vy, vz, e1, e2, e3]
  simp [e1, e2, e3]
theorem recN_in {t c b x : Int} (hk : checkN t c b = 0) (h0 : -9223372036854775808 ≤ x) (h1 : x ≤ 9223372036854775807) : (1 ≤ x ∧ x ≤ t ∧ 0 ≤ recN t c b x ∧ recN t c b x + 3 ≤ 4096) ∨ (¬ (1 ≤ x ∧ x ≤ t) ∧ recN t c b x = -1) := by
  have hr : rightN t c b = true := by unfold rightN; rw [hk]; rfl
  have h4 := (right_lok hr).2
  have ht := (right_lok hr).1.2.1
  by_cases hin : 1 ≤ x ∧ x ≤ t
  · left
    have hw : wrap64 (x - 1) = x - 1 := IntWalk.wrap64_in _ ⟨by omega, by omega⟩
    have hp : 0 ≤ recN t c b x := by
      have hf : 0 ≤ fromN t c b 2 := by
        obtain ⟨g1, g2, g3, g4, g5, g6⟩ := (right_lok hr).1
        simp only [fromN, longN, manyN, szN, upN]
        simp
        omega
      unfold recN atN
      rw [hw, if_pos ⟨hr, by omega, by simp only [manyN]; omega⟩]
      simp only [szN]; omega
    have hs := (rec_may hp).2.2.2
    unfold sizeN at hs
    rw [if_pos hr] at hs
    exact ⟨hin.1, hin.2, hp, by omega⟩
  · right
    refine ⟨hin, ?_⟩
    unfold recN atN
    rw [if_neg]
    rintro ⟨_, g1, g2⟩
    simp only [manyN] at g2
    rcases wrap_pre24 h0 h1 with ⟨h2, h3⟩ | ⟨h2, h3⟩ <;> omega
theorem recN_bad {t c b x : Int} (hk : checkN t c b ≠ 0) : recN t c b x = -1 := by
  unfold recN atN
  rw [if_neg]
  rintro ⟨g, _⟩
  unfold rightN at g
  exact hk (by simpa using g)

set_option maxRecDepth 100000 in
set_option maxHeartbeats 4000000 in
theorem detf_any (lt lc lb : Int) (wv : Value) (ws : List Wd) (x : Int) (hx : -9223372036854775808 ≤ x ∧ x ≤ 9223372036854775807) (w : World) (hs : Szs w) (hw : Sl w 3 wdE wv ws) (hok : ∀ a ∈ ws, WdOk a) :
    Calls Tryd.prog 6 #[.agg #[.int .i64 lt, .int .i64 lc, .int .i64 lb], wv, .int .i64 x] w fun e w' => e = .returned (.bool true) ∧ ∃ r, w' = ext w r := by
  have HS := hid hs
  have HW := hid hw
  have HO := hid hok
  have hmk : ∀ w : World, (Instr.makeSlice 22 (.int .i64 3) (.int .i64 3)).run Tryd.prog w = .ok (.slice (some ⟨w.heap.size, 0, none⟩) 3 3) (w.alloc (.cells (madeCells #[.int .i64 0, .int .u32 0, .int .u32 0] (3 * 3)) 44)) := fun w => mk_words 3 (by omega) w
  have hea := eq_ans
  have hga := eq_guard_ans
  obtain ⟨a, cp, rfl, _, _⟩ := hw
  obtain ⟨hx0, hx1⟩ := hx
  obtain ⟨p, hp⟩ : ∃ p, p = recN lt lc lb x := ⟨_, rfl⟩
  obtain ⟨ck, hck⟩ : ∃ k, k = checkN lt lc lb := ⟨_, rfl⟩
  obtain ⟨z, hz⟩ : ∃ z, z = sizeN lt lc lb := ⟨_, rfl⟩
  obtain ⟨⟨E, f⟩, hd⟩ : ∃ q, q = dentN lt lc lb x (List.replicate 3 (0, 0, 0)) 1 0 0 := ⟨_, rfl⟩
  obtain ⟨⟨q1, ⟨q2, q3⟩, q4⟩, hq⟩ : ∃ q, q = askN lt lc lb ws x := ⟨_, rfl⟩
  obtain ⟨⟨⟨y1, y2⟩, y3, y4⟩, hy⟩ : ∃ q, q = hapV (q1, (q2, q3), q4) 1 := ⟨_, rfl⟩
  have HP := hid hp.symm
  have HC := hid hck.symm
  have HZ := hid hz.symm
  have HD := hid hd.symm
  have HQ := hid hq.symm
  have HY := hid (show hapV (askN lt lc lb ws x) 1 = ((y1, y2), y3, y4) by rw [← hq]; exact hy.symm)
  -- the outcome, in plain numbers
  have hall : (ck ≠ 0 ∧ p < 0 ∧ E = [] ∧ f = 1 ∧ q1 = 0 ∧ q2 = 0 ∧ q3 = 0 ∧ q4 = 1 ∧ y3 = false ∧ y4 = 1)
      ∨ (ck = 0 ∧ ((1 ≤ x ∧ x ≤ lt ∧ 0 ≤ p ∧ f = 0) ∨ (¬ (1 ≤ x ∧ x ≤ lt) ∧ p < 0 ∧ f = 3)) ∧ (((ws.length : Int) < z ∧ q4 = 1 ∧ y4 = 1) ∨ (¬ (ws.length : Int) < z ∧ ((0 ≤ p ∧ q4 ≠ 3) ∨ (p < 0 ∧ q4 = 3))))) := by
    have hrep : (List.replicate 3 ((0, 0, 0) : Wd)) = [(0, 0, 0), (0, 0, 0), (0, 0, 0)] := rfl
    by_cases h : ck = 0
    · right
      refine ⟨h, ?_, ?_⟩
      · rw [hck] at h
        rcases recN_in h hx0 hx1 with ⟨i1, i2, i3, i4⟩ | ⟨i1, i2⟩
        · left
          refine ⟨i1, i2, by rw [hp]; exact i3, ?_⟩
          have hc := recE_check i3 i4 (x := (0, 0, 0)) (y := (0, 0, 0)) (z := (0, 0, 0)) rfl rfl rfl (by decide) (by decide) (by decide) 1 0 0
          unfold dentN at hd
          rw [hrep, if_neg (by rintro (g | g); exact g h; exact g rfl), if_neg (by omega), if_neg (by omega)] at hd
          dsimp only at hd
          rw [if_neg (by omega), if_neg (by rw [hc]; simp)] at hd
          exact (Prod.mk.inj hd).2
        · right
          refine ⟨i1, by rw [hp, i2]; decide, ?_⟩
          unfold dentN at hd
          rw [hrep, if_neg (by rintro (g | g); exact g h; exact g rfl), if_pos (by rw [i2]; decide)] at hd
          exact (Prod.mk.inj hd).2
      · rw [hck] at h
        unfold askN at hq
        by_cases hl : (ws.length : Int) < z
        · left
          rw [if_pos (.inr (by rw [← hz]; exact hl))] at hq
          simp only [Prod.mk.injEq] at hq
          obtain ⟨rfl, ⟨rfl, rfl⟩, rfl⟩ := hq
          unfold hapV at hy
          rw [if_pos (by decide)] at hy
          simp only [Prod.mk.injEq] at hy
          exact ⟨hl, rfl, hy.2.2⟩
        · right
          refine ⟨hl, ?_⟩
          rw [if_neg (by rintro (g | g); exact g h; exact hl (by rw [hz]; exact g)), ← hp] at hq
          by_cases hn : p < 0
          · rw [if_pos hn] at hq
            simp only [Prod.mk.injEq] at hq
            exact .inr ⟨hn, hq.2.2⟩
          · rw [if_neg hn] at hq
            refine .inl ⟨by omega, ?_⟩
            unfold askV at hq
            split at hq <;> (simp only [Prod.mk.injEq] at hq; omega)
    · left
      have h' := h
      rw [hck] at h'
      unfold dentN at hd
      rw [if_pos (.inl h')] at hd
      unfold askN at hq
      rw [if_pos (.inl h')] at hq
      simp only [Prod.mk.injEq] at hd hq
      obtain ⟨rfl, ⟨rfl, rfl⟩, rfl⟩ := hq
      unfold hapV at hy
      rw [if_pos (by decide)] at hy
      simp only [Prod.mk.injEq] at hy
      exact ⟨h, by rw [hp, recN_bad h']; decide, hd.1, hd.2, rfl, rfl, rfl, rfl, hy.2.1, hy.2.2⟩
  have hyy : y3 = false → y1 = 0 ∧ y2 = 0 ∨ True := fun _ => .inr trivial
  have HAll := hid hall
  clear hs hok hp hck hz hd hq hy hall hyy
  by_cases h40 : (4096 : Int) < (ws.length : Int)
  · go_enter Tryd.func6, Tryd.ntmps6
    go_wp2_with fail
    refine (awake24_any _ (HS.out.of (by (show Ext _ _; repeat (first | with_reducible (refine Hid.out ?_; assumption) | with_reducible exact Ext.refl _ | with_reducible refine Ext.ext ?_ _ | with_reducible refine Ext.alloc ?_ _ | refine Ext.drew ?_ | refine Ext.drewN ?_ _ | exact Ext.refl _))))).mono ?_
    rintro e w' ⟨rfl, r1, rfl⟩
    go_wp2_with fail
    go_ret
    exact ⟨rfl, by (show Ext _ _; repeat (first | with_reducible (refine Hid.out ?_; assumption) | with_reducible exact Ext.refl _ | with_reducible refine Ext.ext ?_ _ | with_reducible refine Ext.alloc ?_ _ | refine Ext.drew ?_ | refine Ext.drewN ?_ _ | exact Ext.refl _))⟩
  have HLl := hid (show ws.length ≤ 1000000 by omega)
  go_enter Tryd.func6, Tryd.ntmps6
  go_wp2_with fail
  refine (awake24_any _ (HS.out.of (by (show Ext _ _; repeat (first | with_reducible (refine Hid.out ?_; assumption) | with_reducible exact Ext.refl _ | with_reducible refine Ext.ext ?_ _ | with_reducible refine Ext.alloc ?_ _ | refine Ext.drew ?_ | refine Ext.drewN ?_ _ | exact Ext.refl _))))).mono ?_
  rintro e w' ⟨rfl, r1, rfl⟩
  go_upto_region 5 with fail
  generalize hU : ext _ r1 = U
  have HEU := hid (show Ext w U by rw [← hU]; (show Ext _ _; repeat (first | with_reducible (refine Hid.out ?_; assumption) | with_reducible exact Ext.refl _ | with_reducible refine Ext.ext ?_ _ | with_reducible refine Ext.alloc ?_ _ | refine Ext.drew ?_ | refine Ext.drewN ?_ _ | exact Ext.refl _)))
  have HB3 := hid (show Blk U w.heap.size [.int .i64 lt, .int .i64 lc, .int .i64 lb] by rw [← hU]; (show Blk _ _ _; repeat (first | with_reducible (refine Hid.out ?_; assumption) | with_reducible refine Blk.drew ?_ | with_reducible refine Blk.ext ?_ _ | (with_reducible refine Blk.new _ _ rfl ?_; first | with_reducible rfl | (simp; done)) | with_reducible refine Blk.alloc ?_ _ | with_reducible assumption | with_reducible apply Blk.setE | (with_reducible refine Blk.other' ?_ ?_; first | omega | (simp; omega)) | (show List.set _ _ _ = _; exact rfl) | (show _ < List.length _; simp; done))))
  clear hU
  refine wp_region_held_drew (S := fun w' => (w'.cell? ⟨w.heap.size, 0, none⟩ = some (.int .i64 lt) ∧ w'.cell? ⟨w.heap.size, 1, none⟩ = some (.int .i64 lc) ∧ w'.cell? ⟨w.heap.size, 2, none⟩ = some (.int .i64 lb))) (by kernel_rfl) (by exact (HB3.out.of (show Ext U _ by (show Ext _ _; repeat (first | with_reducible (refine Hid.out ?_; assumption) | with_reducible exact Ext.refl _ | with_reducible refine Ext.ext ?_ _ | with_reducible refine Ext.alloc ?_ _ | with_reducible refine Ext.drew ?_ | with_reducible refine Ext.setCell ?_ (by (try dsimp only); first | omega | (simp; done) | (simp; omega)) _)))).three) (fun hHeld => ?_)
  refine take_met 0 (oi := ⟨_, _, _, _, _, _⟩) (v := ?_) (by kernel_rfl) rfl (by rfl) (fun _ _ _ h => h) (by assumption) ?_ ?_
  rotate_left 1
  · intro w hSw
    try dsimp only at hSw
    go_simp
    try with_reducible rfl
  (try simp only [Act.put, List.setIfInBounds_toArray, List.set_cons_zero, List.set_cons_succ])
  refine take_met 1 (oi := ⟨_, _, _, _, _, _⟩) (v := ?_) (by kernel_rfl) rfl (by rfl) (fun _ _ _ h => h) (by assumption) ?_ ?_
  rotate_left 1
  · intro w hSw
    try dsimp only at hSw
    go_simp
    try with_reducible rfl
  (try simp only [Act.put, List.setIfInBounds_toArray, List.set_cons_zero, List.set_cons_succ])
  refine take_met 3 (oi := ⟨_, _, _, _, _, _⟩) (v := ?_) (by kernel_rfl) rfl (by rfl) (fun _ _ _ h => h) (by assumption) ?_ ?_
  rotate_left 1
  · intro w hSw
    try dsimp only at hSw
    go_simp
    try with_reducible rfl
  (try simp only [Act.put, List.setIfInBounds_toArray, List.set_cons_zero, List.set_cons_succ])
  refine take_only 2 (oi := ⟨_, _, _, _, _, _⟩) (by kernel_rfl) rfl (fun K hK => ?_)
  go_simp
  have hOld := hHeld
  clear hHeld
  refine hK.out _ _ (by exact (HB3.out.of (show Ext U _ by (show Ext _ _; repeat (first | with_reducible (refine Hid.out ?_; assumption) | with_reducible exact Ext.refl _ | with_reducible refine Ext.ext ?_ _ | with_reducible refine Ext.alloc ?_ _ | with_reducible refine Ext.drew ?_ | with_reducible refine Ext.setCell ?_ (by (try dsimp only); first | omega | (simp; done) | (simp; omega)) _)))).three) (fun hHeld => ?_)
  clear hOld hK K
  (try simp only [Act.put, List.setIfInBounds_toArray, List.set_cons_zero, List.set_cons_succ])
  refine take_only 4 (oi := ⟨_, _, _, _, _, _⟩) (by kernel_rfl) rfl (fun K hK => ?_)
  go_simp
  first
    | (go_at_call 13; refine (dent_any lt lc lb x (List.replicate 3 (0, 0, 0)) _ wdOk000 1 0 0 (by omega) (by omega) (by omega) _ ?_ ?_).mono ?_; exact HS.out.of (HEU.out.trans (by (show Ext _ _; repeat (first | with_reducible (refine Hid.out ?_; assumption) | with_reducible exact Ext.refl _ | with_reducible refine Ext.ext ?_ _ | with_reducible refine Ext.alloc ?_ _ | refine Ext.drew ?_ | refine Ext.drewN ?_ _ | exact Ext.refl _)))); exact Sl.of_own wdE_len (Ws.made 3 (by omega) _ 0 (Nat.zero_le _)); rintro y w' ⟨v2, rfl, ⟨r2, rfl⟩, hv2⟩; rw [HD.out] at hv2 ⊢; dsimp only at hv2 ⊢)
  have hOld := hHeld
  clear hHeld
  refine hK.out _ _ (by exact (HB3.out.of (show Ext U _ by (show Ext _ _; repeat (first | with_reducible (refine Hid.out ?_; assumption) | with_reducible exact Ext.refl _ | with_reducible refine Ext.ext ?_ _ | with_reducible refine Ext.alloc ?_ _ | with_reducible refine Ext.drew ?_ | with_reducible refine Ext.setCell ?_ (by (try dsimp only); first | omega | (simp; done) | (simp; omega)) _)))).three) (fun hHeld => ?_)
  clear hOld hK K
  (try simp only [Act.put, List.setIfInBounds_toArray, List.set_cons_zero, List.set_cons_succ])
  refine take_met 5 (oi := ⟨_, _, _, _, _, _⟩) (v := ?_) (by kernel_rfl) rfl (by rfl) (fun _ _ _ h => h) (by assumption) ?_ ?_
  rotate_left 1
  · intro w hSw
    try dsimp only at hSw
    go_simp
    try with_reducible rfl
  (try simp only [Act.put, List.setIfInBounds_toArray, List.set_cons_zero, List.set_cons_succ])
  refine take_met 6 (oi := ⟨_, _, _, _, _, _⟩) (v := ?_) (by kernel_rfl) rfl (by rfl) (fun _ _ _ h => h) (by assumption) ?_ ?_
  rotate_left 1
  · intro w hSw
    try dsimp only at hSw
    go_simp
    try with_reducible rfl
  (try simp only [Act.put, List.setIfInBounds_toArray, List.set_cons_zero, List.set_cons_succ])
  refine take_met 7 (oi := ⟨_, _, _, _, _, _⟩) (v := ?_) (by kernel_rfl) rfl (by rfl) (fun _ _ _ h => h) (by assumption) ?_ ?_
  rotate_left 1
  · intro w hSw
    try dsimp only at hSw
    go_simp
    try with_reducible rfl
  (try simp only [Act.put, List.setIfInBounds_toArray, List.set_cons_zero, List.set_cons_succ])
  refine take_met 8 (oi := ⟨_, _, _, _, _, _⟩) (v := ?_) (by kernel_rfl) rfl (by rfl) (fun _ _ _ h => h) (by assumption) ?_ ?_
  rotate_left 1
  · intro w hSw
    try dsimp only at hSw
    go_simp
    try with_reducible rfl
  (try simp only [Act.put, List.setIfInBounds_toArray, List.set_cons_zero, List.set_cons_succ])
  refine take_met 9 (oi := ⟨_, _, _, _, _, _⟩) (v := ?_) (by kernel_rfl) rfl (by rfl) (fun _ _ _ h => h) (by assumption) ?_ ?_
  rotate_left 1
  · intro w hSw
    try dsimp only at hSw
    go_simp
    try with_reducible rfl
  (try simp only [Act.put, List.setIfInBounds_toArray, List.set_cons_zero, List.set_cons_succ])
  refine wpAnyH_done (by kernel_rfl) ?_ _
  obtain ⟨a2, c2, rfl⟩ := Own.shape hv2
  generalize hV : ext _ r2 = V
  have HEV := hid (show Ext U V by rw [← hV]; (show Ext _ _; repeat (first | with_reducible (refine Hid.out ?_; assumption) | with_reducible exact Ext.refl _ | with_reducible refine Ext.ext ?_ _ | with_reducible refine Ext.alloc ?_ _ | refine Ext.drew ?_ | refine Ext.drewN ?_ _ | exact Ext.refl _)))
  have HEw := hid (HEU.out.trans HEV.out)
  obtain ⟨l0, l1, l2⟩ := (HB3.out.of HEV.out).three
  have l4 := (HB3.out.of HEV.out).1
  clear hV hv2
  go_wp2_with fail
  refine (asked_any lt lc lb x ws _ HO.out HLl.out _ (HS.out.of (HEw.out.trans (by (show Ext _ _; repeat (first | with_reducible (refine Hid.out ?_; assumption) | with_reducible exact Ext.refl _ | with_reducible refine Ext.ext ?_ _ | with_reducible refine Ext.alloc ?_ _ | refine Ext.drew ?_ | refine Ext.drewN ?_ _ | exact Ext.refl _))))) (HW.out.of wdE_len (HEw.out.trans (by (show Ext _ _; repeat (first | with_reducible (refine Hid.out ?_; assumption) | with_reducible exact Ext.refl _ | with_reducible refine Ext.ext ?_ _ | with_reducible refine Ext.alloc ?_ _ | refine Ext.drew ?_ | refine Ext.drewN ?_ _ | exact Ext.refl _)))))).mono ?_
  rintro y w' ⟨rfl, r3, rfl⟩
  rw [HQ.out]
  dsimp only
  go_wp2_with fail
  refine (happened_any lt lc lb x 1 ws _ HO.out HLl.out _ (HS.out.of (HEw.out.trans (by (show Ext _ _; repeat (first | with_reducible (refine Hid.out ?_; assumption) | with_reducible exact Ext.refl _ | with_reducible refine Ext.ext ?_ _ | with_reducible refine Ext.alloc ?_ _ | refine Ext.drew ?_ | refine Ext.drewN ?_ _ | exact Ext.refl _))))) (HW.out.of wdE_len (HEw.out.trans (by (show Ext _ _; repeat (first | with_reducible (refine Hid.out ?_; assumption) | with_reducible exact Ext.refl _ | with_reducible refine Ext.ext ?_ _ | with_reducible refine Ext.alloc ?_ _ | refine Ext.drew ?_ | refine Ext.drewN ?_ _ | exact Ext.refl _)))))).mono ?_
  rintro y w' ⟨rfl, r4, rfl⟩
  rw [HY.out]
  dsimp only
  go_wp2_with fail
  refine (ats_any lt lc lb x _ (HS.out.of (HEw.out.trans (by (show Ext _ _; repeat (first | with_reducible (refine Hid.out ?_; assumption) | with_reducible exact Ext.refl _ | with_reducible refine Ext.ext ?_ _ | with_reducible refine Ext.alloc ?_ _ | refine Ext.drew ?_ | refine Ext.drewN ?_ _ | exact Ext.refl _)))))).mono ?_
  rintro e w' ⟨⟨r5, rfl⟩, hy⟩
  rw [HP.out] at hy
  obtain ⟨a3, n3, c3, rfl, hn3⟩ : ∃ a3 n3 c3, e = .returned (.slice a3 n3 c3) ∧ ((p < 0 ∧ n3 = 0) ∨ (0 ≤ p ∧ n3 = 3)) := by
    rcases hy with ⟨h, rfl⟩ | ⟨h, g, rfl, _⟩
    · exact ⟨_, _, _, rfl, .inl ⟨h, rfl⟩⟩
    · exact ⟨_, _, _, rfl, .inr ⟨h, rfl⟩⟩
  clear hy
  go_wp2_with fail
  refine (check_any lt lc lb _ (HS.out.of (HEw.out.trans (by (show Ext _ _; repeat (first | with_reducible (refine Hid.out ?_; assumption) | with_reducible exact Ext.refl _ | with_reducible refine Ext.ext ?_ _ | with_reducible refine Ext.alloc ?_ _ | refine Ext.drew ?_ | refine Ext.drewN ?_ _ | exact Ext.refl _)))))).mono ?_
  rintro e w' ⟨rfl, r6, rfl⟩
  rw [HC.out]
  rcases HAll.out with ⟨h1, h2, rfl, rfl, rfl, rfl, rfl, rfl, rfl, rfl⟩ | ⟨rfl, h2, h3⟩
  · obtain rfl : n3 = 0 := by omega
    have hb : (ck != 0) = true := by simpa using h1
    clear h1 hn3
    go_wp2_with fail
    go_ret
    exact ⟨rfl, HEw.out.trans (by (show Ext _ _; repeat (first | with_reducible (refine Hid.out ?_; assumption) | with_reducible exact Ext.refl _ | with_reducible refine Ext.ext ?_ _ | with_reducible refine Ext.alloc ?_ _ | refine Ext.drew ?_ | refine Ext.drewN ?_ _ | exact Ext.refl _)))⟩
  · have hcs : (1 ≤ x ∧ x ≤ lt ∧ f = 0 ∧ n3 = 3 ∧ (((ws.length : Int) < z ∧ q4 = 1 ∧ y4 = 1) ∨ (¬ (ws.length : Int) < z ∧ (q4 != 3) = true))) ∨ ((¬ 1 ≤ x ∨ (1 ≤ x ∧ ¬ x ≤ lt)) ∧ f = 3 ∧ n3 = 0 ∧ (((ws.length : Int) < z ∧ q4 = 1 ∧ y4 = 1) ∨ (¬ (ws.length : Int) < z ∧ q4 = 3))) := by
      rcases h2 with ⟨i1, i2, i3, i4⟩ | ⟨i1, i2, i3⟩
      · left
        refine ⟨i1, i2, i4, by omega, ?_⟩
        rcases h3 with h | ⟨h, ⟨_, g⟩ | ⟨g, _⟩⟩
        · exact .inl h
        · exact .inr ⟨by omega, by simpa using g⟩
        · omega
      · right
        refine ⟨by omega, i3, by omega, ?_⟩
        rcases h3 with h | ⟨h, ⟨g, _⟩ | ⟨_, g⟩⟩
        · exact .inl h
        · omega
        · exact .inr ⟨by omega, g⟩
    clear h2 h3 hn3
    rcases hcs with ⟨i1, i2, rfl, rfl, ⟨i3, rfl, rfl⟩ | ⟨i3, i4⟩⟩ | ⟨i1 | ⟨i1, i2⟩, rfl, rfl, ⟨i3, rfl, rfl⟩ | ⟨i3, rfl⟩⟩
    all_goals
      try have hdd : decide (x ≤ lt) = false := decide_eq_false (by omega)
      go_wp2_with fail
      refine (size_any lt lc lb _ (HS.out.of (HEw.out.trans (by (show Ext _ _; repeat (first | with_reducible (refine Hid.out ?_; assumption) | with_reducible exact Ext.refl _ | with_reducible refine Ext.ext ?_ _ | with_reducible refine Ext.alloc ?_ _ | refine Ext.drew ?_ | refine Ext.drewN ?_ _ | exact Ext.refl _)))))).mono ?_
      rintro e w' ⟨rfl, r7, rfl⟩
      rw [HZ.out]
      go_wp2_with fail
      go_ret
      refine ⟨ret_bool ?_, HEw.out.trans (by (show Ext _ _; repeat (first | with_reducible (refine Hid.out ?_; assumption) | with_reducible exact Ext.refl _ | with_reducible refine Ext.ext ?_ _ | with_reducible refine Ext.alloc ?_ _ | refine Ext.drew ?_ | refine Ext.drewN ?_ _ | exact Ext.refl _)))⟩
      first | rfl | (simp; done) | (simp; omega)

end Go.Proofs.YtlijgheghodfeaaDoor
