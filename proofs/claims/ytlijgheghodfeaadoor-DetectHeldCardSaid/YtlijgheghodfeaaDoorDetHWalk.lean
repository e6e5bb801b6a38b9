/- The walk of the statement DetectHeld. -/
import Derived.Test.YtlijgheghodfeaaDoorDetN
import Derived.Test.YtlijgheghodfeaaDoorArgsD
namespace Go.Proofs.YtlijgheghodfeaaDoor
set_option linter.unusedSimpArgs false
set_option linter.unusedVariables false
open Go.RowKit

set_option maxRecDepth 100000 in
set_option maxHeartbeats 8000000 in
theorem deth_any (t : Int) (ht : 0 ≤ t ∧ t ≤ 255) (x y : Int × Int × Int) (hx : OpOk x) (hy : OpOk y) (w : World) (hs : Szs w) :
    Calls Tryd.prog 8 #[.int .u8 t, .agg #[.int .i64 x.1, .int .i64 x.2.1, .int .i16 x.2.2], .agg #[.int .i64 y.1, .int .i64 y.2.1, .int .i16 y.2.2]] w fun e w' => e = .returned (.bool true) ∧ ∃ r, w' = ext w r := by
  have HS := hid hs
  obtain ⟨n1, v1, e1⟩ := x
  obtain ⟨n2, v2, e2⟩ := y
  obtain ⟨hn1, hv1, he1⟩ := hx
  obtain ⟨hn2, hv2, he2⟩ := hy
  dsimp only at hn1 hv1 he1 hn2 hv2 he2 ⊢
  have HN1 := hid hn1
  have HV1 := hid hv1
  have HN2 := hid hn2
  have HV2 := hid hv2
  have hc1 : IntKind.i64.wrap e1 = e1 := IntWalk.i64_in _ (by omega)
  have hc2 : IntKind.i64.wrap e2 = e2 := IntWalk.i64_in _ (by omega)
  obtain ⟨q, hq⟩ := Int.eq_ofNat_of_zero_le (Int.emod_nonneg t (show (3 : Int) ≠ 0 by omega))
  have hq3 : q < 3 := by have := Int.emod_lt_of_pos t (show (0 : Int) < 3 by omega); omega
  have htm : t.tmod 3 = (q : Int) := by rw [Int.tmod_eq_emod_of_nonneg ht.1]; exact hq
  have hwq : IntKind.i64.wrap (q : Int) = (q : Int) := IntWalk.i64_in _ (by omega)
  have hwk : IntKind.i64.wrap ((q : Int) + 1) = (q : Int) + 1 := IntWalk.i64_in _ (by omega)
  have hrec : recN 3 8 0 ((q : Int) + 1) = (32 + q * 8 : Nat) := by
    rw [rec24 _ (by omega) (by omega), if_pos (by omega)]; omega
  obtain ⟨p, hp⟩ : ∃ p, p = 32 + q * 8 := ⟨_, rfl⟩
  rw [← hp] at hrec
  obtain ⟨sl, hsl⟩ : ∃ s, s = 64 + q * 104 := ⟨_, rfl⟩
  have HSl := hid (show atN 3 8 0 4 (wrap64 ((q : Int) + 1 - 1)) 0 = sl by
    rw [hsl]
    have h : q = 0 ∨ q = 1 ∨ q = 2 := by omega
    rcases h with rfl | rfl | rfl
    · exact (show atN 3 8 0 4 (wrap64 0) 0 = 64 by kernel_rfl)
    · exact (show atN 3 8 0 4 (wrap64 1) 0 = 168 by kernel_rfl)
    · exact (show atN 3 8 0 4 (wrap64 2) 0 = 272 by kernel_rfl))
  have hpb : p + 3 ≤ 56 := by omega
  have hps : 64 ≤ sl ∧ sl + 11 ≤ 376 := by omega
  have HP := hid hrec
  have HP2 := hid (show atN 3 8 0 2 (wrap64 ((q : Int) + 1 - 1)) 0 = p from hrec)
  have HQ3 := hid hq3
  have HPe := hid hp
  have HSe := hid hsl
  clear hs hn1 hv1 hn2 hv2 hrec hq ht hp hsl
  by_cases hearly : n1 < 0 ∨ e1 < 0 ∨ 255 < e1 ∨ n2 ≤ n1 ∨ e2 < 0 ∨ 255 < e2
  · have hcs : n1 < 0 ∨ (¬ n1 < 0 ∧ e1 < 0) ∨ (¬ n1 < 0 ∧ ¬ e1 < 0 ∧ 255 < e1) ∨ (¬ n1 < 0 ∧ ¬ e1 < 0 ∧ ¬ 255 < e1 ∧ n2 ≤ n1) ∨ (¬ n1 < 0 ∧ ¬ e1 < 0 ∧ ¬ 255 < e1 ∧ ¬ n2 ≤ n1 ∧ e2 < 0) ∨ (¬ n1 < 0 ∧ ¬ e1 < 0 ∧ ¬ 255 < e1 ∧ ¬ n2 ≤ n1 ∧ ¬ e2 < 0 ∧ 255 < e2) := by omega
    clear hearly
    rcases hcs with h1 | ⟨h1, h2⟩ | ⟨h1, h2, h3⟩ | ⟨h1, h2, h3, h4⟩ | ⟨h1, h2, h3, h4, h5⟩ | ⟨h1, h2, h3, h4, h5, h6⟩
    all_goals
      go_enter Tryd.func8, Tryd.ntmps8
      go_wp2_with fail
      refine (awake24_any _ (HS.out.of (by (show Ext _ _; repeat (first | with_reducible (refine Hid.out ?_; assumption) | with_reducible exact Ext.refl _ | with_reducible refine Ext.ext ?_ _ | with_reducible refine Ext.alloc ?_ _ | refine Ext.drew ?_ | refine Ext.drewN ?_ _ | exact Ext.refl _))))).mono ?_
      rintro e w' ⟨rfl, r1, rfl⟩
      go_wp2_with fail
      refine (plan24_any _).mono ?_
      rintro e w' ⟨rfl, r2, rfl⟩
      go_wp2_with fail
      go_ret
      exact ⟨rfl, by (show Ext _ _; repeat (first | with_reducible (refine Hid.out ?_; assumption) | with_reducible exact Ext.refl _ | with_reducible refine Ext.ext ?_ _ | with_reducible refine Ext.alloc ?_ _ | refine Ext.drew ?_ | refine Ext.drewN ?_ _ | exact Ext.refl _))⟩
  have h1 : ¬ n1 < 0 := by omega
  have h2 : ¬ e1 < 0 := by omega
  have h3 : ¬ 255 < e1 := by omega
  have h4 : ¬ n2 ≤ n1 := by omega
  have h5 : ¬ e2 < 0 := by omega
  have h6 : ¬ 255 < e2 := by omega
  clear hearly
  obtain ⟨L0, hL0⟩ : ∃ L, L = firstL 3 8 0 := ⟨_, rfl⟩
  have hl0 : L0.length = 376 := by rw [hL0]; exact aw24_len
  obtain ⟨E, hE⟩ : ∃ E, E = recE p (n1, 0, 0) (v1, 0, 0) (e1, 0, 0) n2 e2 v2 := ⟨_, rfl⟩
  have hEl : E.length = 3 := by rw [hE]; rfl
  obtain ⟨D, hD⟩ : ∃ D, D = wordsW 1 0 E := ⟨_, rfl⟩
  have hDl : D.length = 11 := by rw [hD]; unfold wordsW; rw [List.length_append, bodyW_len, hEl]; rfl
  have HDl := hid hDl
  have hdl3 : ([(n1, 0, 0), (v1, 0, 0), (e1, 0, 0)] : List Wd).length = 3 := rfl
  have HDe := hid (show dentN 3 8 0 ((q : Int) + 1) [(n1, 0, 0), (v1, 0, 0), (e1, 0, 0)] n2 e2 v2 = (E, 0) by
    rw [hE]; exact dent_good check24 HP.out (by omega) (by omega) (by omega) ⟨by omega, by omega⟩ (by dsimp only; omega) rfl rfl rfl (by simp) (by simp) (by simp))
  have HDc := hid (show dcheckN 3 8 0 ((q : Int) + 1) 1 0 E = 0 by
    rw [hE]; exact held_check hq3 HP.out (by omega) rfl rfl rfl (by simp) (by simp) (by simp) _ _ _ _ (by omega))
  obtain ⟨R, hR⟩ : ∃ R, R = (refN ((q : Int) + 1) 1).1 := ⟨_, rfl⟩
  have hrf := (held_who q hq3).1
  have HRf := hid (show refN ((q : Int) + 1) 1 = (R, 0) by rw [hR, hrf])
  have hRb : 0 ≤ R ∧ R ≤ 4294967295 := by rw [hR, hrf]; dsimp only; omega
  have HRb := hid hRb
  have hask := held_ask (L := L0) hl0 hq3 HPe.out HP.out (n1 := n1) (v1 := v1) (e1 := e1) (n2 := n2) (v2 := v2) (e2 := e2) (by omega) (by omega) (by omega) (by omega) HSe.out (ws := D) (by rw [hD, hE]) hR
  have hw1 : WdOk (n1, 0, 0) := ⟨HN1.out, ⟨by dsimp only; omega, by dsimp only; omega⟩, ⟨by dsimp only; omega, by dsimp only; omega⟩⟩
  have hw2 : WdOk (v1, 0, 0) := ⟨HV1.out, ⟨by dsimp only; omega, by dsimp only; omega⟩, ⟨by dsimp only; omega, by dsimp only; omega⟩⟩
  have hw3 : WdOk (e1, 0, 0) := ⟨⟨by dsimp only; omega, by dsimp only; omega⟩, ⟨by dsimp only; omega, by dsimp only; omega⟩, ⟨by dsimp only; omega, by dsimp only; omega⟩⟩
  have HWo := hid (show ∀ a ∈ ([(n1, 0, 0), (v1, 0, 0), (e1, 0, 0)] : List Wd), WdOk a by
    intro a ha
    simp only [List.mem_cons, List.not_mem_nil, or_false] at ha
    rcases ha with rfl | rfl | rfl
    · exact hw1
    · exact hw2
    · exact hw3)
  have HEO := hid (show ∀ e ∈ E, EnOk e from fun e he => recE_ok (p := p) ⟨by omega, by omega⟩ hw1 hw2 hw3 (n := n2) (err := e2) (val := v2) HN2.out ⟨by omega, by omega⟩ HV2.out e (by rw [← hE]; exact he))
  obtain ⟨M, hM⟩ : ∃ M, M = heldL L0 p sl n1 v1 e1 R D := ⟨_, rfl⟩
  rw [← hM] at hask
  have HAsk := hid hask
  have HM := hid hM
  have HL0 := hid hL0.symm
  have HLen0 := hid hl0
  have HEl := hid hEl
  have HD := hid hD
  have HMl := hid (show M.length = 376 by rw [hM, heldL_len]; exact hl0)
  have HMo := hid (show ∀ a ∈ M, WdOk a by
    have k : ∀ {u : Int}, -9223372036854775808 ≤ u ∧ u ≤ 9223372036854775807 → WdOk (u, 0, R) := fun hu => ⟨hu, ⟨by dsimp only; omega, by dsimp only; omega⟩, hRb⟩
    rw [hM]
    refine rec3_ok (putL_ok (rec3_ok (by rw [hL0]; exact firstL_ok _ _ _) hw1 hw2 hw3) ?_ _ _) (k HN1.out) (k HV1.out) (k ⟨by omega, by omega⟩)
    rw [hD]; exact wordsW_ok (by omega) (by omega) (by rw [hEl]; omega) HEO.out)
  have HDo := hid (show ∀ a ∈ D, WdOk a by rw [hD]; exact wordsW_ok (by omega) (by omega) (by rw [hEl]; omega) HEO.out)
  clear hask hM hL0 hl0 hE hEl hD hDl hR hrf hRb hw1 hw2 hw3 hdl3
  go_enter Tryd.func8, Tryd.ntmps8
  go_wp2_with fail
  refine (awake24_any _ (HS.out.of (by (show Ext _ _; repeat (first | with_reducible (refine Hid.out ?_; assumption) | with_reducible exact Ext.refl _ | with_reducible refine Ext.ext ?_ _ | with_reducible refine Ext.alloc ?_ _ | refine Ext.drew ?_ | refine Ext.drewN ?_ _ | exact Ext.refl _))))).mono ?_
  rintro e w' ⟨rfl, r1, rfl⟩
  go_wp2_with fail
  refine (plan24_any _).mono ?_
  rintro e w' ⟨rfl, r2, rfl⟩
  go_wp2_with fail
  refine (first_any 3 8 0 _ (HS.out.of (by (show Ext _ _; repeat (first | with_reducible (refine Hid.out ?_; assumption) | with_reducible exact Ext.refl _ | with_reducible refine Ext.ext ?_ _ | with_reducible refine Ext.alloc ?_ _ | refine Ext.drew ?_ | refine Ext.drewN ?_ _ | exact Ext.refl _))))).mono ?_
  rintro e w' ⟨v8, rfl, ⟨r3, rfl⟩, hv8⟩
  rw [HL0.out] at hv8
  obtain ⟨g, c8, rfl, hgl, hgs⟩ := Ws.open hv8 (by rw [HLen0.out]; omega)
  rw [HLen0.out] at hv8 ⊢
  go_wp2_with fail
  refine (size_any 3 8 0 _ (HS.out.of (by (show Ext _ _; repeat (first | with_reducible (refine Hid.out ?_; assumption) | with_reducible exact Ext.refl _ | with_reducible refine Ext.ext ?_ _ | with_reducible refine Ext.alloc ?_ _ | refine Ext.drew ?_ | refine Ext.drewN ?_ _ | exact Ext.refl _))))).mono ?_
  rintro e w' ⟨rfl, r4, rfl⟩
  rw [size24]
  go_wp2_with fail
  refine (record_any 3 8 0 ((q : Int) + 1) _ (HS.out.of (by (show Ext _ _; repeat (first | with_reducible (refine Hid.out ?_; assumption) | with_reducible exact Ext.refl _ | with_reducible refine Ext.ext ?_ _ | with_reducible refine Ext.alloc ?_ _ | refine Ext.drew ?_ | refine Ext.drewN ?_ _ | exact Ext.refl _))))).mono ?_
  rintro e w' ⟨rfl, r5, rfl⟩
  rw [HP2.out]
  go_upto_region 11 with fail
  generalize hU : ext _ r5 = U at *
  have HEU := hid (show Ext w U by rw [← hU]; (show Ext _ _; repeat (first | with_reducible (refine Hid.out ?_; assumption) | with_reducible exact Ext.refl _ | with_reducible refine Ext.ext ?_ _ | with_reducible refine Ext.alloc ?_ _ | refine Ext.drew ?_ | refine Ext.drewN ?_ _ | exact Ext.refl _)))
  have HBx := hid (show Blk U w.heap.size [.int .i64 n1, .int .i64 v1, .int .i16 e1] by rw [← hU]; (show Blk _ _ _; repeat (first | with_reducible (refine Hid.out ?_; assumption) | with_reducible refine Blk.drew ?_ | with_reducible refine Blk.ext ?_ _ | (with_reducible refine Blk.new _ _ rfl ?_; first | with_reducible rfl | (simp; done)) | with_reducible refine Blk.alloc ?_ _ | with_reducible assumption | with_reducible apply Blk.setE | (with_reducible refine Blk.other' ?_ ?_; first | omega | (simp; omega)) | (show List.set _ _ _ = _; exact rfl) | (show _ < List.length _; simp; done))))
  have HBy := hid (show Blk U (w.heap.size + 1) [.int .i64 n2, .int .i64 v2, .int .i16 e2] by rw [← hU]; (show Blk _ _ _; repeat (first | with_reducible (refine Hid.out ?_; assumption) | with_reducible refine Blk.drew ?_ | with_reducible refine Blk.ext ?_ _ | (with_reducible refine Blk.new _ _ rfl ?_; first | with_reducible rfl | (simp; done)) | with_reducible refine Blk.alloc ?_ _ | with_reducible assumption | with_reducible apply Blk.setE | (with_reducible refine Blk.other' ?_ ?_; first | omega | (simp; omega)) | (show List.set _ _ _ = _; exact rfl) | (show _ < List.length _; simp; done))))
  have HBl := hid (show Blk U (w.heap.size + 1 + 1 + r1.new.size + r2.new.size) [.int .i64 3, .int .i64 8, .int .i64 0] by rw [← hU]; (show Blk _ _ _; repeat (first | with_reducible (refine Hid.out ?_; assumption) | with_reducible refine Blk.drew ?_ | with_reducible refine Blk.ext ?_ _ | (with_reducible refine Blk.new _ _ rfl ?_; first | with_reducible rfl | (simp; done)) | with_reducible refine Blk.alloc ?_ _ | with_reducible assumption | with_reducible apply Blk.setE | (with_reducible refine Blk.other' ?_ ?_; first | omega | (simp; omega)) | (show List.set _ _ _ = _; exact rfl) | (show _ < List.length _; simp; done))))
  have HLU := hid (show Ws U w.heap.size (.slice (some ⟨g, 0, none⟩) 376 c8) L0 from by
    have h := Own.mono hv8 (show w.heap.size ≤ _ by simp; omega)
    rw [← hU]
    exact Ws.of h (by (show Ext _ _; repeat (first | with_reducible (refine Hid.out ?_; assumption) | with_reducible exact Ext.refl _ | with_reducible refine Ext.ext ?_ _ | with_reducible refine Ext.alloc ?_ _ | refine Ext.drew ?_ | refine Ext.drewN ?_ _ | exact Ext.refl _))))
  have hgl2 : w.heap.size + 1 + 1 + r1.new.size + r2.new.size < g := by simp at hgl; omega
  have hgU : g < U.heap.size := by rw [← hU]; simp at hgs ⊢; omega
  generalize hnl : w.heap.size + 1 + 1 + r1.new.size + r2.new.size = nl at *
  generalize hny : w.heap.size + 1 = ny at *
  generalize hnx : w.heap.size = nx at *
  have hnn : nx < ny ∧ ny < nl := by omega
  have hnw : Ext w U ∧ w.heap.size = nx := ⟨HEU.out, hnx⟩
  clear hU hv8 hgl hgs hnl hny
  obtain ⟨⟨a1, a2, a3⟩, ha⟩ : ∃ y, L0[p]? = some y := ⟨_, List.getElem?_eq_getElem (by rw [HLen0.out]; omega)⟩
  obtain ⟨⟨b1, b2, b3⟩, hb⟩ : ∃ y, L0[p + 1]? = some y := ⟨_, List.getElem?_eq_getElem (by rw [HLen0.out]; omega)⟩
  obtain ⟨⟨c1, c2, c3⟩, hc⟩ : ∃ y, L0[p + 2]? = some y := ⟨_, List.getElem?_eq_getElem (by rw [HLen0.out]; omega)⟩
  obtain ⟨m0, m1, m2⟩ := Ws.cells HLU.out ha
  obtain ⟨m3, m4, m5⟩ := Ws.cells HLU.out hb
  obtain ⟨m6, m7, m8⟩ := Ws.cells HLU.out hc
  have f0 := fun j => Ws.free HLU.out j
  have t0 : (0 : Int) ≤ (p : Int) + 1 := by omega
  have t1 : ((p : Int) + 1).toNat = p + 1 := by omega
  have t2 : (p : Int) + 1 < 376 := by omega
  have t3 : (0 : Int) ≤ (p : Int) + 2 := by omega
  have t4 : ((p : Int) + 2).toNat = p + 2 := by omega
  have t5 : (p : Int) + 2 < 376 := by omega
  have t6 : (p : Int) < 376 := by omega
  have w1 : IntKind.i64.wrap ((p : Int) + 1) = (p : Int) + 1 := IntWalk.i64_in _ (by omega)
  have w2 : IntKind.i64.wrap ((p : Int) + 2) = (p : Int) + 2 := IntWalk.i64_in _ (by omega)
  clear ha hb hc
  refine wp_region_held_drew (S := fun w' => (w'.cell? ⟨nx, 0, none⟩ = some (.int .i64 n1) ∧ w'.cell? ⟨nx, 1, none⟩ = some (.int .i64 v1) ∧ w'.cell? ⟨nx, 2, none⟩ = some (.int .i16 e1))) (by kernel_rfl) (by exact Blk.three (show Blk _ nx [.int .i64 n1, .int .i64 v1, .int .i16 e1] by (show Blk _ _ _; repeat (first | with_reducible (refine Hid.out ?_; assumption) | with_reducible apply Blk.drew | with_reducible apply Blk.ext | ((with_reducible refine Blk.new _ _ rfl ?_); first | with_reducible rfl | focus (simp; done)) | ((with_reducible apply Blk.newE); first | with_reducible rfl | focus (simp; done)) | with_reducible apply Blk.alloc | with_reducible assumption | with_reducible apply Blk.setE | ((with_reducible refine Blk.other' ?_ ?_); first | omega | (simp; omega)) | (show List.set _ _ _ = _; exact rfl) | focus (show _ < List.length _; simp; done))))) (fun hHeld => ?_)
  refine take_met 0 (oi := ⟨_, _, _, _, _, _⟩) (v := ?_) (by kernel_rfl) rfl (by rfl) (fun _ _ _ h => h) (by assumption) ?_ ?_
  rotate_left 1
  · intro w hSw
    try dsimp only at hSw
    go_simp
    try with_reducible rfl
  (try simp only [Act.put, List.setIfInBounds_toArray, List.set_cons_zero, List.set_cons_succ])
  refine take_met 1 (oi := ⟨_, _, _, _, _, _⟩) (v := ?_) (by kernel_rfl) rfl (by rfl) (fun _ _ _ h => h) (by assumption) ?_ ?_
  rotate_left 1
  · intro w hSw
    try dsimp only at hSw
    go_simp
    try with_reducible rfl
  (try simp only [Act.put, List.setIfInBounds_toArray, List.set_cons_zero, List.set_cons_succ])
  refine take_met 2 (oi := ⟨_, _, _, _, _, _⟩) (v := ?_) (by kernel_rfl) rfl (by rfl) (fun _ _ _ h => h) (by assumption) ?_ ?_
  rotate_left 1
  · intro w hSw
    try dsimp only at hSw
    go_simp
    try with_reducible rfl
  (try simp only [Act.put, List.setIfInBounds_toArray, List.set_cons_zero, List.set_cons_succ])
  refine take_met 3 (oi := ⟨_, _, _, _, _, _⟩) (v := ?_) (by kernel_rfl) rfl (by rfl) (fun _ _ _ h => h) (by assumption) ?_ ?_
  rotate_left 1
  · intro w hSw
    try dsimp only at hSw
    go_simp
    try with_reducible rfl
  (try simp only [Act.put, List.setIfInBounds_toArray, List.set_cons_zero, List.set_cons_succ])
  refine take_met 4 (oi := ⟨_, _, _, _, _, _⟩) (v := ?_) (by kernel_rfl) rfl (by rfl) (fun _ _ _ h => h) (by assumption) ?_ ?_
  rotate_left 1
  · intro w hSw
    try dsimp only at hSw
    go_simp
    try with_reducible rfl
  (try simp only [Act.put, List.setIfInBounds_toArray, List.set_cons_zero, List.set_cons_succ])
  refine take_met 5 (oi := ⟨_, _, _, _, _, _⟩) (v := ?_) (by kernel_rfl) rfl (by rfl) (fun _ _ _ h => h) (by assumption) ?_ ?_
  rotate_left 1
  · intro w hSw
    try dsimp only at hSw
    go_simp
    try with_reducible rfl
  (try simp only [Act.put, List.setIfInBounds_toArray, List.set_cons_zero, List.set_cons_succ])
  refine take_met 6 (oi := ⟨_, _, _, _, _, _⟩) (v := ?_) (by kernel_rfl) rfl (by rfl) (fun _ _ _ h => h) (by assumption) ?_ ?_
  rotate_left 1
  · intro w hSw
    try dsimp only at hSw
    go_simp
    try with_reducible rfl
  (try simp only [Act.put, List.setIfInBounds_toArray, List.set_cons_zero, List.set_cons_succ])
  refine take_met 7 (oi := ⟨_, _, _, _, _, _⟩) (v := ?_) (by kernel_rfl) rfl (by rfl) (fun _ _ _ h => h) (by assumption) ?_ ?_
  rotate_left 1
  · intro w hSw
    try dsimp only at hSw
    go_simp
    try with_reducible rfl
  (try simp only [Act.put, List.setIfInBounds_toArray, List.set_cons_zero, List.set_cons_succ])
  refine take_met 8 (oi := ⟨_, _, _, _, _, _⟩) (v := ?_) (by kernel_rfl) rfl (by rfl) (fun _ _ _ h => h) (by assumption) ?_ ?_
  rotate_left 1
  · intro w hSw
    try dsimp only at hSw
    go_simp
    try with_reducible rfl
  (try simp only [Act.put, List.setIfInBounds_toArray, List.set_cons_zero, List.set_cons_succ])
  refine take_met 9 (oi := ⟨_, _, _, _, _, _⟩) (v := ?_) (by kernel_rfl) rfl (by rfl) (fun _ _ _ h => h) (by assumption) ?_ ?_
  rotate_left 1
  · intro w hSw
    try dsimp only at hSw
    go_simp
    try with_reducible rfl
  (try simp only [Act.put, List.setIfInBounds_toArray, List.set_cons_zero, List.set_cons_succ])
  refine take_met 10 (oi := ⟨_, _, _, _, _, _⟩) (v := ?_) (by kernel_rfl) rfl (by rfl) (fun _ _ _ h => h) (by assumption) ?_ ?_
  rotate_left 1
  · intro w hSw
    try dsimp only at hSw
    go_simp
    try with_reducible rfl
  (try simp only [Act.put, List.setIfInBounds_toArray, List.set_cons_zero, List.set_cons_succ])
  refine take_met 11 (oi := ⟨_, _, _, _, _, _⟩) (v := ?_) (by kernel_rfl) rfl (by rfl) (fun _ _ _ h => h) (by assumption) ?_ ?_
  rotate_left 1
  · intro w hSw
    try dsimp only at hSw
    go_simp
    try with_reducible rfl
  (try simp only [Act.put, List.setIfInBounds_toArray, List.set_cons_zero, List.set_cons_succ])
  refine take_met 12 (oi := ⟨_, _, _, _, _, _⟩) (v := ?_) (by kernel_rfl) rfl (by rfl) (fun _ _ _ h => h) (by assumption) ?_ ?_
  rotate_left 1
  · intro w hSw
    try dsimp only at hSw
    go_simp
    try with_reducible rfl
  (try simp only [Act.put, List.setIfInBounds_toArray, List.set_cons_zero, List.set_cons_succ])
  refine take_met 13 (oi := ⟨_, _, _, _, _, _⟩) (v := ?_) (by kernel_rfl) rfl (by rfl) (fun _ _ _ h => h) (by assumption) ?_ ?_
  rotate_left 1
  · intro w hSw
    try dsimp only at hSw
    go_simp
    try with_reducible rfl
  (try simp only [Act.put, List.setIfInBounds_toArray, List.set_cons_zero, List.set_cons_succ])
  refine take_met 14 (oi := ⟨_, _, _, _, _, _⟩) (v := ?_) (by kernel_rfl) rfl (by rfl) (fun _ _ _ h => h) (by assumption) ?_ ?_
  rotate_left 1
  · intro w hSw
    try dsimp only at hSw
    go_simp
    try with_reducible rfl
  (try simp only [Act.put, List.setIfInBounds_toArray, List.set_cons_zero, List.set_cons_succ])
  refine take_met 15 (oi := ⟨_, _, _, _, _, _⟩) (v := ?_) (by kernel_rfl) rfl (by rfl) (fun _ _ _ h => h) (by assumption) ?_ ?_
  rotate_left 1
  · intro w hSw
    try dsimp only at hSw
    go_simp
    try with_reducible rfl
  (try simp only [Act.put, List.setIfInBounds_toArray, List.set_cons_zero, List.set_cons_succ])
  refine take_met 16 (oi := ⟨_, _, _, _, _, _⟩) (v := ?_) (by kernel_rfl) rfl (by rfl) (fun _ _ _ h => h) (by assumption) ?_ ?_
  rotate_left 1
  · intro w hSw
    try dsimp only at hSw
    go_simp
    try with_reducible rfl
  (try simp only [Act.put, List.setIfInBounds_toArray, List.set_cons_zero, List.set_cons_succ])
  refine take_met 17 (oi := ⟨_, _, _, _, _, _⟩) (v := ?_) (by kernel_rfl) rfl (by rfl) (fun _ _ _ h => h) (by assumption) ?_ ?_
  rotate_left 1
  · intro w hSw
    try dsimp only at hSw
    go_simp
    try with_reducible rfl
  (try simp only [Act.put, List.setIfInBounds_toArray, List.set_cons_zero, List.set_cons_succ])
  refine take_met 18 (oi := ⟨_, _, _, _, _, _⟩) (v := ?_) (by kernel_rfl) rfl (by rfl) (fun _ _ _ h => h) (by assumption) ?_ ?_
  rotate_left 1
  · intro w hSw
    try dsimp only at hSw
    go_simp
    try with_reducible rfl
  (try simp only [Act.put, List.setIfInBounds_toArray, List.set_cons_zero, List.set_cons_succ])
  refine take_only 19 (oi := ⟨_, _, _, _, _, _⟩) (by kernel_rfl) rfl (fun K hK => ?_)
  go_simp
  have hOld := hHeld
  clear hHeld
  refine hK.out _ _ (by exact Blk.three (show Blk _ nx [.int .i64 n1, .int .i64 v1, .int .i16 e1] by (show Blk _ _ _; repeat (first | with_reducible (refine Hid.out ?_; assumption) | with_reducible apply Blk.drew | with_reducible apply Blk.ext | ((with_reducible refine Blk.new _ _ rfl ?_); first | with_reducible rfl | focus (simp; done)) | ((with_reducible apply Blk.newE); first | with_reducible rfl | focus (simp; done)) | with_reducible apply Blk.alloc | with_reducible assumption | with_reducible apply Blk.setE | ((with_reducible refine Blk.other' ?_ ?_); first | omega | (simp; omega)) | (show List.set _ _ _ = _; exact rfl) | focus (show _ < List.length _; simp; done))))) (fun hHeld => ?_)
  clear hOld hK K
  (try simp only [Act.put, List.setIfInBounds_toArray, List.set_cons_zero, List.set_cons_succ])
  refine take_met 20 (oi := ⟨_, _, _, _, _, _⟩) (v := ?_) (by kernel_rfl) rfl (by rfl) (fun _ _ _ h => h) (by assumption) ?_ ?_
  rotate_left 1
  · intro w hSw
    try dsimp only at hSw
    go_simp
    try with_reducible rfl
  (try simp only [Act.put, List.setIfInBounds_toArray, List.set_cons_zero, List.set_cons_succ])
  refine take_only 21 (oi := ⟨_, _, _, _, _, _⟩) (by kernel_rfl) rfl (fun K hK => ?_)
  go_simp
  have hOld := hHeld
  clear hHeld
  refine hK.out _ _ (by exact Blk.three (show Blk _ nx [.int .i64 n1, .int .i64 v1, .int .i16 e1] by (show Blk _ _ _; repeat (first | with_reducible (refine Hid.out ?_; assumption) | with_reducible apply Blk.drew | with_reducible apply Blk.ext | ((with_reducible refine Blk.new _ _ rfl ?_); first | with_reducible rfl | focus (simp; done)) | ((with_reducible apply Blk.newE); first | with_reducible rfl | focus (simp; done)) | with_reducible apply Blk.alloc | with_reducible assumption | with_reducible apply Blk.setE | ((with_reducible refine Blk.other' ?_ ?_); first | omega | (simp; omega)) | (show List.set _ _ _ = _; exact rfl) | focus (show _ < List.length _; simp; done))))) (fun hHeld => ?_)
  clear hOld hK K
  (try simp only [Act.put, List.setIfInBounds_toArray, List.set_cons_zero, List.set_cons_succ])
  refine take_met 22 (oi := ⟨_, _, _, _, _, _⟩) (v := ?_) (by kernel_rfl) rfl (by rfl) (fun _ _ _ h => h) (by assumption) ?_ ?_
  rotate_left 1
  · intro w hSw
    try dsimp only at hSw
    go_simp
    try with_reducible rfl
  (try simp only [Act.put, List.setIfInBounds_toArray, List.set_cons_zero, List.set_cons_succ])
  refine take_only 23 (oi := ⟨_, _, _, _, _, _⟩) (by kernel_rfl) rfl (fun K hK => ?_)
  go_simp
  have hOld := hHeld
  clear hHeld
  refine hK.out _ _ (by exact Blk.three (show Blk _ nx [.int .i64 n1, .int .i64 v1, .int .i16 e1] by (show Blk _ _ _; repeat (first | with_reducible (refine Hid.out ?_; assumption) | with_reducible apply Blk.drew | with_reducible apply Blk.ext | ((with_reducible refine Blk.new _ _ rfl ?_); first | with_reducible rfl | focus (simp; done)) | ((with_reducible apply Blk.newE); first | with_reducible rfl | focus (simp; done)) | with_reducible apply Blk.alloc | with_reducible assumption | with_reducible apply Blk.setE | ((with_reducible refine Blk.other' ?_ ?_); first | omega | (simp; omega)) | (show List.set _ _ _ = _; exact rfl) | focus (show _ < List.length _; simp; done))))) (fun hHeld => ?_)
  clear hOld hK K
  (try simp only [Act.put, List.setIfInBounds_toArray, List.set_cons_zero, List.set_cons_succ])
  refine wpAnyH_done (by kernel_rfl) ?_ _
  clear hHeld
  generalize hV : World.drew _ = V
  have HGV := hid (show Grn g U V by rw [← hV]; exact Grn.drew (((((((((Grn.refl.setCell _ _).setCell _ _).setCell _ _).setCell _ _).setCell _ _).setCell _ _).setCell _ _).setCell _ _).setCell _ _))
  have HLV := hid (show Ws V nx (.slice (some ⟨g, 0, none⟩) 376 c8) (rec3 L0 p (n1, 0, 0) (v1, 0, 0) (e1, 0, 0)) from by
    rw [← hV]
    exact Own.drew (Ws.put (Ws.put (Ws.put HLU.out (by rw [HLen0.out]; omega) n1 0 0) (by rw [List.length_set, HLen0.out]; omega) v1 0 0) (by rw [List.length_set, List.length_set, HLen0.out]; omega) e1 0 0))
  clear hV m0 m1 m2 m3 m4 m5 m6 m7 m8 f0 t0 t1 t2 t3 t4 t5 t6 w1 w2
  obtain ⟨L1, hL1⟩ : ∃ L, L = rec3 L0 p (n1, 0, 0) (v1, 0, 0) (e1, 0, 0) := ⟨_, rfl⟩
  rw [← hL1] at HLV
  have hl1 : L1.length = 376 := by rw [hL1, rec3_len]; exact HLen0.out
  have hp1 : (L1.drop p).take 3 = [(n1, 0, 0), (v1, 0, 0), (e1, 0, 0)] := by rw [hL1]; exact rec3_part _ _ _ _ _ (by rw [HLen0.out]; omega)
  have HLn1 := hid hl1
  have HL1e := hid hL1
  have hSV : Sl V 3 wdE (.slice (some ⟨g, 0, none⟩) 376 c8) L1 := Sl.of_own wdE_len HLV.out
  have hcap := (Sl.cap hSV).2
  have HSp := hid (show Sl V 3 wdE (.slice (some ⟨g, p * 3, none⟩) 3 (c8 - p)) [(n1, 0, 0), (v1, 0, 0), (e1, 0, 0)] by
    have h1 := Sl.dropB hSV p (by rw [hl1]; omega) (by omega)
    rw [Nat.zero_add] at h1
    have h2 : 376 - p = (L1.drop p).length := by rw [List.length_drop, hl1]
    rw [h2] at h1
    have h3 := Sl.take h1 3 (by rw [← h2]; omega) (c8 - p) (by omega)
    rw [hp1] at h3
    exact h3)
  have HEV := hid (show Ext w V from HEU.out.grn HGV.out (by omega))
  have HBxV := hid (HBx.out.grn HGV.out (by omega))
  have HByV := hid (HBy.out.grn HGV.out (by omega))
  have HBlV := hid (HBl.out.grn HGV.out (by omega))
  have hgV : g < V.heap.size := Nat.lt_of_lt_of_le hgU HGV.out.size
  have t3 : (0 : Int) ≤ (p : Int) + 3 := by omega
  have t4 : ((p : Int) + 3).toNat = p + 3 := by omega
  have t5 : (p : Int) + 3 ≤ 376 := by omega
  have t6 : (p : Int) ≤ (p : Int) + 3 := by omega
  have t7 : (p : Int) + 3 ≤ (c8 : Int) := by omega
  have w3 : IntKind.i64.wrap ((p : Int) + 3) = (p : Int) + 3 := IntWalk.i64_in _ (by omega)
  have hcp : ¬ c8 = p := by omega
  clear hL1 hl1 hp1 hSV
  go_upto_region 12 with fail
  refine wp_region_held_drew (S := fun w' => (w'.cell? ⟨nl, 0, none⟩ = some (.int .i64 3) ∧ w'.cell? ⟨nl, 1, none⟩ = some (.int .i64 8) ∧ w'.cell? ⟨nl, 2, none⟩ = some (.int .i64 0)) ∧ (w'.cell? ⟨ny, 0, none⟩ = some (.int .i64 n2) ∧ w'.cell? ⟨ny, 1, none⟩ = some (.int .i64 v2) ∧ w'.cell? ⟨ny, 2, none⟩ = some (.int .i16 e2))) (by kernel_rfl) (by exact ⟨(HBlV.out.of (show Ext V _ by (show Ext _ _; repeat (first | with_reducible (refine Hid.out ?_; assumption) | with_reducible exact Ext.refl _ | with_reducible refine Ext.ext ?_ _ | with_reducible refine Ext.alloc ?_ _ | with_reducible refine Ext.drew ?_ | with_reducible refine Ext.setCell ?_ (by (try dsimp only); first | omega | (simp; done) | (simp; omega)) _)))).three, (HByV.out.of (show Ext V _ by (show Ext _ _; repeat (first | with_reducible (refine Hid.out ?_; assumption) | with_reducible exact Ext.refl _ | with_reducible refine Ext.ext ?_ _ | with_reducible refine Ext.alloc ?_ _ | with_reducible refine Ext.drew ?_ | with_reducible refine Ext.setCell ?_ (by (try dsimp only); first | omega | (simp; done) | (simp; omega)) _)))).three⟩) (fun hHeld => ?_)
  refine take_met 0 (oi := ⟨_, _, _, _, _, _⟩) (v := ?_) (by kernel_rfl) rfl (by rfl) (fun _ _ _ h => h) (by assumption) ?_ ?_
  rotate_left 1
  · intro w hSw
    try dsimp only at hSw
    go_simp
    try with_reducible rfl
  (try simp only [Act.put, List.setIfInBounds_toArray, List.set_cons_zero, List.set_cons_succ])
  refine take_met 1 (oi := ⟨_, _, _, _, _, _⟩) (v := ?_) (by kernel_rfl) rfl (by rfl) (fun _ _ _ h => h) (by assumption) ?_ ?_
  rotate_left 1
  · intro w hSw
    try dsimp only at hSw
    go_simp
    try with_reducible rfl
  (try simp only [Act.put, List.setIfInBounds_toArray, List.set_cons_zero, List.set_cons_succ])
  refine take_met 2 (oi := ⟨_, _, _, _, _, _⟩) (v := ?_) (by kernel_rfl) rfl (by rfl) (fun _ _ _ h => h) (by assumption) ?_ ?_
  rotate_left 1
  · intro w hSw
    try dsimp only at hSw
    go_simp
    try with_reducible rfl
  (try simp only [Act.put, List.setIfInBounds_toArray, List.set_cons_zero, List.set_cons_succ])
  refine take_met 3 (oi := ⟨_, _, _, _, _, _⟩) (v := ?_) (by kernel_rfl) rfl (by rfl) (fun _ _ _ h => h) (by assumption) ?_ ?_
  rotate_left 1
  · intro w hSw
    try dsimp only at hSw
    go_simp
    try with_reducible rfl
  (try simp only [Act.put, List.setIfInBounds_toArray, List.set_cons_zero, List.set_cons_succ])
  refine take_met 4 (oi := ⟨_, _, _, _, _, _⟩) (v := ?_) (by kernel_rfl) rfl (by rfl) (fun _ _ _ h => h) (by assumption) ?_ ?_
  rotate_left 1
  · intro w hSw
    try dsimp only at hSw
    go_simp
    try with_reducible rfl
  (try simp only [Act.put, List.setIfInBounds_toArray, List.set_cons_zero, List.set_cons_succ])
  refine take_met 5 (oi := ⟨_, _, _, _, _, _⟩) (v := ?_) (by kernel_rfl) rfl (by rfl) (fun _ _ _ h => h) (by assumption) ?_ ?_
  rotate_left 1
  · intro w hSw
    try dsimp only at hSw
    go_simp
    try with_reducible rfl
  (try simp only [Act.put, List.setIfInBounds_toArray, List.set_cons_zero, List.set_cons_succ])
  refine take_met 6 (oi := ⟨_, _, _, _, _, _⟩) (v := ?_) (by kernel_rfl) rfl (by rfl) (fun _ _ _ h => h) (by assumption) ?_ ?_
  rotate_left 1
  · intro w hSw
    try dsimp only at hSw
    go_simp
    try with_reducible rfl
  (try simp only [Act.put, List.setIfInBounds_toArray, List.set_cons_zero, List.set_cons_succ])
  refine take_met 7 (oi := ⟨_, _, _, _, _, _⟩) (v := ?_) (by kernel_rfl) rfl (by rfl) (fun _ _ _ h => h) (by assumption) ?_ ?_
  rotate_left 1
  · intro w hSw
    try dsimp only at hSw
    go_simp
    try with_reducible rfl
  (try simp only [Act.put, List.setIfInBounds_toArray, List.set_cons_zero, List.set_cons_succ])
  refine take_met 8 (oi := ⟨_, _, _, _, _, _⟩) (v := ?_) (by kernel_rfl) rfl (by rfl) (fun _ _ _ h => h) (by assumption) ?_ ?_
  rotate_left 1
  · intro w hSw
    try dsimp only at hSw
    go_simp
    try with_reducible rfl
  (try simp only [Act.put, List.setIfInBounds_toArray, List.set_cons_zero, List.set_cons_succ])
  refine take_met 9 (oi := ⟨_, _, _, _, _, _⟩) (v := ?_) (by kernel_rfl) rfl (by rfl) (fun _ _ _ h => h) (by assumption) ?_ ?_
  rotate_left 1
  · intro w hSw
    try dsimp only at hSw
    go_simp
    try with_reducible rfl
  (try simp only [Act.put, List.setIfInBounds_toArray, List.set_cons_zero, List.set_cons_succ])
  refine take_met 10 (oi := ⟨_, _, _, _, _, _⟩) (v := ?_) (by kernel_rfl) rfl (by rfl) (fun _ _ _ h => h) (by assumption) ?_ ?_
  rotate_left 1
  · intro w hSw
    try dsimp only at hSw
    go_simp
    try with_reducible rfl
  (try simp only [Act.put, List.setIfInBounds_toArray, List.set_cons_zero, List.set_cons_succ])
  refine take_met 11 (oi := ⟨_, _, _, _, _, _⟩) (v := ?_) (by kernel_rfl) rfl (by rfl) (fun _ _ _ h => h) (by assumption) ?_ ?_
  rotate_left 1
  · intro w hSw
    try dsimp only at hSw
    go_simp
    try with_reducible rfl
  (try simp only [Act.put, List.setIfInBounds_toArray, List.set_cons_zero, List.set_cons_succ])
  refine take_met 12 (oi := ⟨_, _, _, _, _, _⟩) (v := ?_) (by kernel_rfl) rfl (by rfl) (fun _ _ _ h => h) (by assumption) ?_ ?_
  rotate_left 1
  · intro w hSw
    try dsimp only at hSw
    go_simp
    try with_reducible rfl
  (try simp only [Act.put, List.setIfInBounds_toArray, List.set_cons_zero, List.set_cons_succ])
  refine take_met 13 (oi := ⟨_, _, _, _, _, _⟩) (v := ?_) (by kernel_rfl) rfl (by rfl) (fun _ _ _ h => h) (by assumption) ?_ ?_
  rotate_left 1
  · intro w hSw
    try dsimp only at hSw
    go_simp
    try with_reducible rfl
  (try simp only [Act.put, List.setIfInBounds_toArray, List.set_cons_zero, List.set_cons_succ])
  refine take_met 14 (oi := ⟨_, _, _, _, _, _⟩) (v := ?_) (by kernel_rfl) rfl (by rfl) (fun _ _ _ h => h) (by assumption) ?_ ?_
  rotate_left 1
  · intro w hSw
    try dsimp only at hSw
    go_simp
    try with_reducible rfl
  (try simp only [Act.put, List.setIfInBounds_toArray, List.set_cons_zero, List.set_cons_succ])
  refine take_only 15 (oi := ⟨_, _, _, _, _, _⟩) (by kernel_rfl) rfl (fun K hK => ?_)
  go_simp
  first
    | (go_at_call 13; refine (dent_any 3 8 0 ((q : Int) + 1) [(n1, 0, 0), (v1, 0, 0), (e1, 0, 0)] _ HWo.out n2 e2 v2 HN2.out ⟨by omega, by omega⟩ HV2.out _ (HS.out.of (HEV.out.trans (by (show Ext _ _; repeat (first | with_reducible (refine Hid.out ?_; assumption) | with_reducible exact Ext.refl _ | with_reducible refine Ext.ext ?_ _ | with_reducible refine Ext.alloc ?_ _ | refine Ext.drew ?_ | refine Ext.drewN ?_ _ | exact Ext.refl _))))) (HSp.out.of wdE_len (by (show Ext _ _; repeat (first | with_reducible (refine Hid.out ?_; assumption) | with_reducible exact Ext.refl _ | with_reducible refine Ext.ext ?_ _ | with_reducible refine Ext.alloc ?_ _ | refine Ext.drew ?_ | refine Ext.drewN ?_ _ | exact Ext.refl _))))).mono ?_; rintro y w' ⟨v10, rfl, ⟨r6, rfl⟩, hv10⟩; rw [HDe.out] at hv10 ⊢; dsimp only at hv10 ⊢)
  have hOld := hHeld
  clear hHeld
  refine hK.out _ _ (by exact ⟨(HBlV.out.of (show Ext V _ by (show Ext _ _; repeat (first | with_reducible (refine Hid.out ?_; assumption) | with_reducible exact Ext.refl _ | with_reducible refine Ext.ext ?_ _ | with_reducible refine Ext.alloc ?_ _ | with_reducible refine Ext.drew ?_ | with_reducible refine Ext.setCell ?_ (by (try dsimp only); first | omega | (simp; done) | (simp; omega)) _)))).three, (HByV.out.of (show Ext V _ by (show Ext _ _; repeat (first | with_reducible (refine Hid.out ?_; assumption) | with_reducible exact Ext.refl _ | with_reducible refine Ext.ext ?_ _ | with_reducible refine Ext.alloc ?_ _ | with_reducible refine Ext.drew ?_ | with_reducible refine Ext.setCell ?_ (by (try dsimp only); first | omega | (simp; done) | (simp; omega)) _)))).three⟩) (fun hHeld => ?_)
  clear hOld hK K
  (try simp only [Act.put, List.setIfInBounds_toArray, List.set_cons_zero, List.set_cons_succ])
  refine take_met 16 (oi := ⟨_, _, _, _, _, _⟩) (v := ?_) (by kernel_rfl) rfl (by rfl) (fun _ _ _ h => h) (by assumption) ?_ ?_
  rotate_left 1
  · intro w hSw
    try dsimp only at hSw
    go_simp
    try with_reducible rfl
  (try simp only [Act.put, List.setIfInBounds_toArray, List.set_cons_zero, List.set_cons_succ])
  refine take_met 17 (oi := ⟨_, _, _, _, _, _⟩) (v := ?_) (by kernel_rfl) rfl (by rfl) (fun _ _ _ h => h) (by assumption) ?_ ?_
  rotate_left 1
  · intro w hSw
    try dsimp only at hSw
    go_simp
    try with_reducible rfl
  (try simp only [Act.put, List.setIfInBounds_toArray, List.set_cons_zero, List.set_cons_succ])
  refine take_met 18 (oi := ⟨_, _, _, _, _, _⟩) (v := ?_) (by kernel_rfl) rfl (by rfl) (fun _ _ _ h => h) (by assumption) ?_ ?_
  rotate_left 1
  · intro w hSw
    try dsimp only at hSw
    go_simp
    try with_reducible rfl
  (try simp only [Act.put, List.setIfInBounds_toArray, List.set_cons_zero, List.set_cons_succ])
  refine take_met 19 (oi := ⟨_, _, _, _, _, _⟩) (v := ?_) (by kernel_rfl) rfl (by rfl) (fun _ _ _ h => h) (by assumption) ?_ ?_
  rotate_left 1
  · intro w hSw
    try dsimp only at hSw
    go_simp
    try with_reducible rfl
  (try simp only [Act.put, List.setIfInBounds_toArray, List.set_cons_zero, List.set_cons_succ])
  refine take_met 20 (oi := ⟨_, _, _, _, _, _⟩) (v := ?_) (by kernel_rfl) rfl (by rfl) (fun _ _ _ h => h) (by assumption) ?_ ?_
  rotate_left 1
  · intro w hSw
    try dsimp only at hSw
    go_simp
    try with_reducible rfl
  (try simp only [Act.put, List.setIfInBounds_toArray, List.set_cons_zero, List.set_cons_succ])
  refine wpAnyH_done (by kernel_rfl) ?_ _
  clear hHeld
  obtain ⟨a10, c10, rfl⟩ := Own.shape hv10
  rw [HEl.out] at hv10 ⊢
  generalize hX : ext _ r6 = X at *
  have HEX0 := hid (show Ext V X by rw [← hX]; (show Ext _ _; repeat (first | with_reducible (refine Hid.out ?_; assumption) | with_reducible exact Ext.refl _ | with_reducible refine Ext.ext ?_ _ | with_reducible refine Ext.alloc ?_ _ | refine Ext.drew ?_ | refine Ext.drewN ?_ _ | exact Ext.refl _)))
  have HEs := hid (show Es X (.slice a10 3 c10) E from Sl.of_own enE_len hv10)
  have HEX := hid (HEV.out.trans HEX0.out)
  have HBlX := hid (HBlV.out.of HEX0.out)
  have HByX := hid (HByV.out.of HEX0.out)
  have HBxX := hid (HBxV.out.of HEX0.out)
  have HLX := hid (HLV.out.of HEX0.out)
  have hgX : g < X.heap.size := Nat.lt_of_lt_of_le hgV HEX0.out.size
  clear hX hv10 hcp t3 t4 t5 t6 t7 w3 HLV HEX0
  obtain ⟨l0, l1, l2⟩ := HBlX.out.three
  have l4 := HBlX.out.1
  go_wp2_with fail
  refine (dwords_any 3 8 0 ((q : Int) + 1) 1 0 (by omega) (by omega) E _ HEO.out _ (HS.out.of (HEX.out.trans (by (show Ext _ _; repeat (first | with_reducible (refine Hid.out ?_; assumption) | with_reducible exact Ext.refl _ | with_reducible refine Ext.ext ?_ _ | with_reducible refine Ext.alloc ?_ _ | refine Ext.drew ?_ | refine Ext.drewN ?_ _ | exact Ext.refl _))))) (HEs.out.of enE_len (by (show Ext _ _; repeat (first | with_reducible (refine Hid.out ?_; assumption) | with_reducible exact Ext.refl _ | with_reducible refine Ext.ext ?_ _ | with_reducible refine Ext.alloc ?_ _ | refine Ext.drew ?_ | refine Ext.drewN ?_ _ | exact Ext.refl _))))).mono ?_
  rintro y w' ⟨v13, rfl, ⟨r7, rfl⟩, hv13⟩
  rw [if_pos HDc.out, ← HD.out] at hv13
  rw [HDc.out]
  obtain ⟨g13, c13, rfl, hg13, hgs13⟩ := Ws.open hv13 (by rw [HDl.out]; omega)
  rw [HDl.out] at hv13 ⊢
  go_wp2_with fail
  refine (ref_any ((q : Int) + 1) 1 _).mono ?_
  rintro e w' ⟨rfl, r8, rfl⟩
  rw [HRf.out]
  go_wp2_with fail
  generalize hZ : ext _ r8 = Z
  have HEZ0 := hid (show Ext X Z by rw [← hZ]; (show Ext _ _; repeat (first | with_reducible (refine Hid.out ?_; assumption) | with_reducible exact Ext.refl _ | with_reducible refine Ext.ext ?_ _ | with_reducible refine Ext.alloc ?_ _ | refine Ext.drew ?_ | refine Ext.drewN ?_ _ | exact Ext.refl _)))
  have HSD := hid (show Sl Z 3 wdE (.slice (some ⟨g13, 0, none⟩) 11 c13) D from by
    have h := (Sl.of_own wdE_len hv13)
    rw [← hZ]; exact h.of wdE_len (by (show Ext _ _; repeat (first | with_reducible (refine Hid.out ?_; assumption) | with_reducible exact Ext.refl _ | with_reducible refine Ext.ext ?_ _ | with_reducible refine Ext.alloc ?_ _ | refine Ext.drew ?_ | refine Ext.drewN ?_ _ | exact Ext.refl _))))
  have HEZ := hid (HEX.out.trans HEZ0.out)
  have HBlZ := hid (HBlX.out.of HEZ0.out)
  have HByZ := hid (HByX.out.of HEZ0.out)
  have HBxZ := hid (HBxX.out.of HEZ0.out)
  have HLZ := hid (HLX.out.of HEZ0.out)
  have hgZ : g < Z.heap.size := Nat.lt_of_lt_of_le hgX HEZ0.out.size
  have hgd : g13 ≠ g := by (try simp at hg13); omega
  clear hZ hv13 hg13 hgs13 HLX HEZ0 l0 l1 l2 l4
  go_loopw [17] (fun i wr => ∃ j : Nat, j ≤ 11 ∧ i = .int .i64 j ∧ Hid (Ws wr nx (.slice (some ⟨g, 0, none⟩) 376 c8) (putL L1 D sl j)) ∧ Hid (Grn g Z wr)) (fun i _ => 11 - (intOf i).toNat)
  case atStart => exact ⟨0, by omega, rfl, HLZ, hid Grn.refl⟩
  case round =>
  clear HLZ
  obtain ⟨j, hj, rfl, HL, HG⟩ := hrel
  have HEw := hid (HEZ.out.grn HG.out (by omega))
  have HBlw := hid (HBlZ.out.grn HG.out (by omega))
  have HByw := hid (HByZ.out.grn HG.out (by omega))
  have HBxw := hid (HBxZ.out.grn HG.out (by omega))
  have hgw : g < wr.heap.size := Nat.lt_of_lt_of_le hgZ HG.out.size
  obtain ⟨l0, l1, l2⟩ := HBlw.out.three
  have l4 := HBlw.out.1
  by_cases hj3 : j < 11
  · have hjj : (j : Int) < 11 := by omega
    obtain ⟨⟨u1, u2, u3⟩, hu⟩ : ∃ u, D[j]? = some u := ⟨_, List.getElem?_eq_getElem (by rw [HDl.out]; omega)⟩
    have HNx := hid (putL_succ (L := L1) (p := sl) hu)
    obtain ⟨q0, b4, o4, ha4, hbl, hcx⟩ := Sl.at (HSD.out.grn wdE_len HG.out hgd) hu
    cases ha4
    have k0 := hcx 0 (by omega)
    have k1 := hcx 1 (by omega)
    have k2 := hcx 2 (by omega)
    simp [wdE] at k0 k1 k2
    have hlen : (putL L1 D sl j).length = 376 := by rw [putL_len]; exact HLn1.out
    obtain ⟨⟨y1, y2, y3⟩, hy⟩ : ∃ y, (putL L1 D sl j)[sl + j]? = some y := ⟨_, List.getElem?_eq_getElem (by rw [hlen]; omega)⟩
    obtain ⟨m0, m1, m2⟩ := Ws.cells HL.out hy
    have f0 := Ws.free HL.out ((sl + j) * 3)
    have f1 := Ws.free HL.out ((sl + j) * 3 + 1)
    have f2 := Ws.free HL.out ((sl + j) * 3 + 2)
    have HLn := hid hlen
    have t1 : ((sl : Int) + (j : Int)).toNat = sl + j := by omega
    have t0 : (0 : Int) ≤ (sl : Int) + (j : Int) := by omega
    have t2 : (sl : Int) + (j : Int) < 376 := by omega
    have t3 : IntKind.i64.wrap ((sl : Int) + (j : Int)) = (sl : Int) + (j : Int) := IntWalk.i64_in _ (by omega)
    clear hcx q0 hu hy hlen hbl
    go_upto_region 20 with fail
    refine wp_region_held_drew (S := fun w' => (w'.cell? ⟨nl, 0, none⟩ = some (.int .i64 3) ∧ w'.cell? ⟨nl, 1, none⟩ = some (.int .i64 8) ∧ w'.cell? ⟨nl, 2, none⟩ = some (.int .i64 0)) ∧ (w'.cell? ⟨g13, j * 3, none⟩ = some (.int .i64 u1) ∧ w'.cell? ⟨g13, j * 3 + 1, none⟩ = some (.int .u32 u2) ∧ w'.cell? ⟨g13, j * 3 + 2, none⟩ = some (.int .u32 u3))) (by kernel_rfl) (by exact ⟨⟨(show Grn g wr _ from by first | exact Grn.refl.drew | exact (Grn.refl.drew.ext _) | exact (((Grn.refl.drew.ext _).setCell _ _).setCell _ _).setCell _ _).cell (by omega) l0, (show Grn g wr _ from by first | exact Grn.refl.drew | exact (Grn.refl.drew.ext _) | exact (((Grn.refl.drew.ext _).setCell _ _).setCell _ _).setCell _ _).cell (by omega) l1, (show Grn g wr _ from by first | exact Grn.refl.drew | exact (Grn.refl.drew.ext _) | exact (((Grn.refl.drew.ext _).setCell _ _).setCell _ _).setCell _ _).cell (by omega) l2⟩, (show Grn g wr _ from by first | exact Grn.refl.drew | exact (Grn.refl.drew.ext _) | exact (((Grn.refl.drew.ext _).setCell _ _).setCell _ _).setCell _ _).cell hgd k0, (show Grn g wr _ from by first | exact Grn.refl.drew | exact (Grn.refl.drew.ext _) | exact (((Grn.refl.drew.ext _).setCell _ _).setCell _ _).setCell _ _).cell hgd k1, (show Grn g wr _ from by first | exact Grn.refl.drew | exact (Grn.refl.drew.ext _) | exact (((Grn.refl.drew.ext _).setCell _ _).setCell _ _).setCell _ _).cell hgd k2⟩) (fun hHeld => ?_)
    refine take_met 0 (oi := ⟨_, _, _, _, _, _⟩) (v := ?_) (by kernel_rfl) rfl (by rfl) (fun _ _ _ h => h) (by assumption) ?_ ?_
    rotate_left 1
    · intro w hSw
      try dsimp only at hSw
      go_simp
      try with_reducible rfl
    (try simp only [Act.put, List.setIfInBounds_toArray, List.set_cons_zero, List.set_cons_succ])
    refine take_met 1 (oi := ⟨_, _, _, _, _, _⟩) (v := ?_) (by kernel_rfl) rfl (by rfl) (fun _ _ _ h => h) (by assumption) ?_ ?_
    rotate_left 1
    · intro w hSw
      try dsimp only at hSw
      go_simp
      try with_reducible rfl
    (try simp only [Act.put, List.setIfInBounds_toArray, List.set_cons_zero, List.set_cons_succ])
    refine take_met 2 (oi := ⟨_, _, _, _, _, _⟩) (v := ?_) (by kernel_rfl) rfl (by rfl) (fun _ _ _ h => h) (by assumption) ?_ ?_
    rotate_left 1
    · intro w hSw
      try dsimp only at hSw
      go_simp
      try with_reducible rfl
    (try simp only [Act.put, List.setIfInBounds_toArray, List.set_cons_zero, List.set_cons_succ])
    refine take_met 4 (oi := ⟨_, _, _, _, _, _⟩) (v := ?_) (by kernel_rfl) rfl (by rfl) (fun _ _ _ h => h) (by assumption) ?_ ?_
    rotate_left 1
    · intro w hSw
      try dsimp only at hSw
      go_simp
      try with_reducible rfl
    (try simp only [Act.put, List.setIfInBounds_toArray, List.set_cons_zero, List.set_cons_succ])
    refine take_met 6 (oi := ⟨_, _, _, _, _, _⟩) (v := ?_) (by kernel_rfl) rfl (by rfl) (fun _ _ _ h => h) (by assumption) ?_ ?_
    rotate_left 1
    · intro w hSw
      try dsimp only at hSw
      go_simp
      try with_reducible rfl
    (try simp only [Act.put, List.setIfInBounds_toArray, List.set_cons_zero, List.set_cons_succ])
    refine take_met 7 (oi := ⟨_, _, _, _, _, _⟩) (v := ?_) (by kernel_rfl) rfl (by rfl) (fun _ _ _ h => h) (by assumption) ?_ ?_
    rotate_left 1
    · intro w hSw
      try dsimp only at hSw
      go_simp
      try with_reducible rfl
    (try simp only [Act.put, List.setIfInBounds_toArray, List.set_cons_zero, List.set_cons_succ])
    refine take_met 8 (oi := ⟨_, _, _, _, _, _⟩) (v := ?_) (by kernel_rfl) rfl (by rfl) (fun _ _ _ h => h) (by assumption) ?_ ?_
    rotate_left 1
    · intro w hSw
      try dsimp only at hSw
      go_simp
      try with_reducible rfl
    (try simp only [Act.put, List.setIfInBounds_toArray, List.set_cons_zero, List.set_cons_succ])
    refine take_met 9 (oi := ⟨_, _, _, _, _, _⟩) (v := ?_) (by kernel_rfl) rfl (by rfl) (fun _ _ _ h => h) (by assumption) ?_ ?_
    rotate_left 1
    · intro w hSw
      try dsimp only at hSw
      go_simp
      try with_reducible rfl
    (try simp only [Act.put, List.setIfInBounds_toArray, List.set_cons_zero, List.set_cons_succ])
    refine take_only 3 (oi := ⟨_, _, _, _, _, _⟩) (by kernel_rfl) rfl (fun K hK => ?_)
    go_simp
    first
      | (go_at_call 29; refine (slot_any 3 8 0 ((q : Int) + 1) _ (HS.out.of (HEw.out.trans (by (show Ext _ _; repeat (first | with_reducible (refine Hid.out ?_; assumption) | with_reducible exact Ext.refl _ | with_reducible refine Ext.ext ?_ _ | with_reducible refine Ext.alloc ?_ _ | refine Ext.drew ?_ | refine Ext.drewN ?_ _ | exact Ext.refl _)))))).mono ?_; rintro e w' ⟨rfl, r9, rfl⟩; rw [HSl.out])
    have hOld := hHeld
    clear hHeld
    refine hK.out _ _ (by exact ⟨⟨(show Grn g wr _ from by first | exact Grn.refl.drew | exact (Grn.refl.drew.ext _) | exact (((Grn.refl.drew.ext _).setCell _ _).setCell _ _).setCell _ _).cell (by omega) l0, (show Grn g wr _ from by first | exact Grn.refl.drew | exact (Grn.refl.drew.ext _) | exact (((Grn.refl.drew.ext _).setCell _ _).setCell _ _).setCell _ _).cell (by omega) l1, (show Grn g wr _ from by first | exact Grn.refl.drew | exact (Grn.refl.drew.ext _) | exact (((Grn.refl.drew.ext _).setCell _ _).setCell _ _).setCell _ _).cell (by omega) l2⟩, (show Grn g wr _ from by first | exact Grn.refl.drew | exact (Grn.refl.drew.ext _) | exact (((Grn.refl.drew.ext _).setCell _ _).setCell _ _).setCell _ _).cell hgd k0, (show Grn g wr _ from by first | exact Grn.refl.drew | exact (Grn.refl.drew.ext _) | exact (((Grn.refl.drew.ext _).setCell _ _).setCell _ _).setCell _ _).cell hgd k1, (show Grn g wr _ from by first | exact Grn.refl.drew | exact (Grn.refl.drew.ext _) | exact (((Grn.refl.drew.ext _).setCell _ _).setCell _ _).setCell _ _).cell hgd k2⟩) (fun hHeld => ?_)
    clear hOld hK K
    (try simp only [Act.put, List.setIfInBounds_toArray, List.set_cons_zero, List.set_cons_succ])
    refine take_met 5 (oi := ⟨_, _, _, _, _, _⟩) (v := ?_) (by kernel_rfl) rfl (by rfl) (fun _ _ _ h => h) (by assumption) ?_ ?_
    rotate_left 1
    · intro w hSw
      try dsimp only at hSw
      go_simp
      try with_reducible rfl
    (try simp only [Act.put, List.setIfInBounds_toArray, List.set_cons_zero, List.set_cons_succ])
    refine take_met 10 (oi := ⟨_, _, _, _, _, _⟩) (v := ?_) (by kernel_rfl) rfl (by rfl) (fun _ _ _ h => h) (by assumption) ?_ ?_
    rotate_left 1
    · intro w hSw
      try dsimp only at hSw
      go_simp
      try with_reducible rfl
    (try simp only [Act.put, List.setIfInBounds_toArray, List.set_cons_zero, List.set_cons_succ])
    refine take_only 11 (oi := ⟨_, _, _, _, _, _⟩) (by kernel_rfl) rfl (fun K hK => ?_)
    go_simp
    have hOld := hHeld
    clear hHeld
    refine hK.out _ _ (by exact ⟨⟨(show Grn g wr _ from by first | exact Grn.refl.drew | exact (Grn.refl.drew.ext _) | exact (((Grn.refl.drew.ext _).setCell _ _).setCell _ _).setCell _ _).cell (by omega) l0, (show Grn g wr _ from by first | exact Grn.refl.drew | exact (Grn.refl.drew.ext _) | exact (((Grn.refl.drew.ext _).setCell _ _).setCell _ _).setCell _ _).cell (by omega) l1, (show Grn g wr _ from by first | exact Grn.refl.drew | exact (Grn.refl.drew.ext _) | exact (((Grn.refl.drew.ext _).setCell _ _).setCell _ _).setCell _ _).cell (by omega) l2⟩, (show Grn g wr _ from by first | exact Grn.refl.drew | exact (Grn.refl.drew.ext _) | exact (((Grn.refl.drew.ext _).setCell _ _).setCell _ _).setCell _ _).cell hgd k0, (show Grn g wr _ from by first | exact Grn.refl.drew | exact (Grn.refl.drew.ext _) | exact (((Grn.refl.drew.ext _).setCell _ _).setCell _ _).setCell _ _).cell hgd k1, (show Grn g wr _ from by first | exact Grn.refl.drew | exact (Grn.refl.drew.ext _) | exact (((Grn.refl.drew.ext _).setCell _ _).setCell _ _).setCell _ _).cell hgd k2⟩) (fun hHeld => ?_)
    clear hOld hK K
    (try simp only [Act.put, List.setIfInBounds_toArray, List.set_cons_zero, List.set_cons_succ])
    refine wpAnyH_done (by kernel_rfl) ?_ _
    go_wp2_with fail
    go_roundw
    case rel => exact ⟨j + 1, by omega, by go_num, hid (by rw [HNx.out]; exact Ws.put (HL.out.of (by (show Ext _ _; repeat (first | with_reducible (refine Hid.out ?_; assumption) | with_reducible exact Ext.refl _ | with_reducible refine Ext.ext ?_ _ | with_reducible refine Ext.alloc ?_ _ | refine Ext.drew ?_ | refine Ext.drewN ?_ _ | exact Ext.refl _)))) (by rw [HLn.out]; omega) u1 u2 u3), hid ((((HG.out.trans (Grn.of_ext (by (show Ext _ _; repeat (first | with_reducible (refine Hid.out ?_; assumption) | with_reducible exact Ext.refl _ | with_reducible refine Ext.ext ?_ _ | with_reducible refine Ext.alloc ?_ _ | refine Ext.drew ?_ | refine Ext.drewN ?_ _ | exact Ext.refl _))))).setCell _ _).setCell _ _).setCell _ _)⟩
    case measure => simp [intOf]; omega
  have hjj : ¬ (j : Int) < 11 := by omega
  obtain rfl : j = 11 := by omega
  clear hj hj3
  go_wp2_with fail
  obtain ⟨L2, hL2⟩ : ∃ L, L = putL L1 D sl 11 := ⟨_, rfl⟩
  rw [← hL2] at HL
  have hl2 : L2.length = 376 := by rw [hL2, putL_len]; exact HLn1.out
  have hold : ∀ (j : Nat) (m : Int), j < 3 → [n1, v1, e1][j]? = some m → (rec3To L2 p (n1, 0, R) (v1, 0, R) (e1, 0, R) j)[p + j]? = some (m, 0, 0) := by
    intro j m hj hm
    rw [rec3To_get _ _ _ _ _ _ hj, hL2, putL_get _ _ _ _ _ (by rw [HDl.out]; omega) (by rw [HLn1.out]; omega), if_neg (by omega), HL1e.out, rec3_get _ _ _ _ _ (by rw [HLen0.out]; omega)]
    match j, hm with
    | 0, hm => cases hm; rw [if_pos (by omega)]
    | 1, hm => cases hm; rw [if_neg (by omega), if_pos (by omega)]
    | 2, hm => cases hm; rw [if_neg (by omega), if_neg (by omega), if_pos (by omega)]
  have hnew : ∀ (j : Nat) (m : Int), [n1, v1, e1][j]? = some m → rec3To L2 p (n1, 0, R) (v1, 0, R) (e1, 0, R) (j + 1) = (rec3To L2 p (n1, 0, R) (v1, 0, R) (e1, 0, R) j).set (p + j) (m, 0, R) := by
    intro j m hm
    refine rec3To_succ _ _ _ _ _ _ _ ?_
    match j, hm with
    | 0, hm => cases hm; rfl
    | 1, hm => cases hm; rfl
    | 2, hm => cases hm; rfl
  have hMe : rec3To L2 p (n1, 0, R) (v1, 0, R) (e1, 0, R) 3 = M := by rw [HM.out, hL2, HL1e.out]; rfl
  have HOld := hid hold
  have HNew := hid hnew
  have HMe := hid hMe
  have HLn2 := hid hl2
  have HLr := hid HL.out
  clear hL2 hl2 hold hnew hMe HL l0 l1 l2 l4 hjj
  go_loopw [18] (fun i wk => ∃ j : Nat, j ≤ 3 ∧ i = .int .i64 j ∧ Hid (Ws wk nx (.slice (some ⟨g, 0, none⟩) 376 c8) (rec3To L2 p (n1, 0, R) (v1, 0, R) (e1, 0, R) j)) ∧ Hid (Grn g wr wk)) (fun i _ => 3 - (intOf i).toNat)
  case atStart => exact ⟨0, by omega, rfl, HLr, hid Grn.refl⟩
  case round =>
  clear HLr
  obtain ⟨j, hj, rfl, HL, HG2⟩ := hrel
  have HEk := hid (HEw.out.grn HG2.out (by omega))
  have HBlk := hid (HBlw.out.grn HG2.out (by omega))
  have HByk := hid (HByw.out.grn HG2.out (by omega))
  have HBxk := hid (HBxw.out.grn HG2.out (by omega))
  have hgk : g < wr.heap.size := Nat.lt_of_lt_of_le hgw HG2.out.size
  by_cases hj3 : j < 3
  · have hjj : (j : Int) < 3 := by omega
    obtain ⟨m, hm⟩ : ∃ u, [n1, v1, e1][j]? = some u := ⟨_, List.getElem?_eq_getElem (by show j < 3; exact hj3)⟩
    have HO := hid (HOld.out j m hj3 hm)
    have HN := hid (HNew.out j m hm)
    obtain ⟨m0, m1, m2⟩ := Ws.cells HL.out HO.out
    have f2 := Ws.free HL.out ((p + j) * 3 + 2)
    have t1 : ((p : Int) + (j : Int)).toNat = p + j := by omega
    have t0 : (0 : Int) ≤ (p : Int) + (j : Int) := by omega
    have t2 : (p : Int) + (j : Int) < 376 := by omega
    have t3 : IntKind.i64.wrap ((p : Int) + (j : Int)) = (p : Int) + (j : Int) := IntWalk.i64_in _ (by omega)
    clear hm
    go_wp2_with fail
    go_roundw
    case rel => exact ⟨j + 1, by omega, by go_num, hid (by rw [HN.out]; exact Own.set wdE_len HL.out HO.out (m, 0, R) (j := 2) (by omega) (.int .u32 R) rfl rfl), hid (HG2.out.setCell _ _)⟩
    case measure => simp [intOf]; omega
  have hjj : ¬ (j : Int) < 3 := by omega
  obtain rfl : j = 3 := by omega
  rw [HMe.out] at HL
  have HSk := hid (show Sl wr 3 wdE (.slice (some ⟨g, 0, none⟩) 376 c8) M from Sl.of_own wdE_len HL.out)
  obtain ⟨l0, l1, l2⟩ := HBlk.out.three
  have l4 := HBlk.out.1
  obtain ⟨⟨y1, y2, y3⟩, hy⟩ : ∃ y, M[sl]? = some y := ⟨_, List.getElem?_eq_getElem (by rw [HMl.out]; omega)⟩
  obtain ⟨m0, m1, m2⟩ := Ws.cells HL.out hy
  have f0 := Ws.free HL.out (sl * 3)
  have f1 := Ws.free HL.out (sl * 3 + 1)
  have f2 := Ws.free HL.out (sl * 3 + 2)
  have t2 : (sl : Int) < 376 := by omega
  clear hj hj3 hy
  go_wp2_with fail
  refine (asked_any 3 8 0 ((q : Int) + 1) M _ HMo.out (by rw [HMl.out]; omega) _ (HS.out.of (HEk.out.trans (by (show Ext _ _; repeat (first | with_reducible (refine Hid.out ?_; assumption) | with_reducible exact Ext.refl _ | with_reducible refine Ext.ext ?_ _ | with_reducible refine Ext.alloc ?_ _ | refine Ext.drew ?_ | refine Ext.drewN ?_ _ | exact Ext.refl _))))) (HSk.out.of wdE_len (by (show Ext _ _; repeat (first | with_reducible (refine Hid.out ?_; assumption) | with_reducible exact Ext.refl _ | with_reducible refine Ext.ext ?_ _ | with_reducible refine Ext.alloc ?_ _ | refine Ext.drew ?_ | refine Ext.drewN ?_ _ | exact Ext.refl _))))).mono ?_
  rintro e w' ⟨rfl, r10, rfl⟩
  rw [HAsk.out.1]
  dsimp only
  go_wp2_with fail
  refine (slot_any 3 8 0 ((q : Int) + 1) _ (HS.out.of (HEk.out.trans (by (show Ext _ _; repeat (first | with_reducible (refine Hid.out ?_; assumption) | with_reducible exact Ext.refl _ | with_reducible refine Ext.ext ?_ _ | with_reducible refine Ext.alloc ?_ _ | refine Ext.drew ?_ | refine Ext.drewN ?_ _ | exact Ext.refl _)))))).mono ?_
  rintro e w' ⟨rfl, r11, rfl⟩
  rw [HSl.out]
  go_wp2_with fail
  refine (status_any 1 1 (by omega) (by omega) _).mono ?_
  rintro e w' ⟨rfl, r12, rfl⟩
  go_wp2_with fail
  generalize hY : World.setCell _ _ _ = Y
  have HLY := hid (show Ws Y nx (.slice (some ⟨g, 0, none⟩) 376 c8) (M.set sl (1, 1, 0)) from by
    rw [← hY]; exact Ws.put (HL.out.of (by (show Ext _ _; repeat (first | with_reducible (refine Hid.out ?_; assumption) | with_reducible exact Ext.refl _ | with_reducible refine Ext.ext ?_ _ | with_reducible refine Ext.alloc ?_ _ | refine Ext.drew ?_ | refine Ext.drewN ?_ _ | exact Ext.refl _)))) (by rw [HMl.out]; omega) 1 1 0)
  have HEY := hid (show Ext w Y by
    rw [← hY]; exact (((HEk.out.trans (show Ext wr _ by (show Ext _ _; repeat (first | with_reducible (refine Hid.out ?_; assumption) | with_reducible exact Ext.refl _ | with_reducible refine Ext.ext ?_ _ | with_reducible refine Ext.alloc ?_ _ | refine Ext.drew ?_ | refine Ext.drewN ?_ _ | exact Ext.refl _)))).setCell (by dsimp only; omega) _).setCell (by dsimp only; omega) _).setCell (by dsimp only; omega) _)
  have HBan := hid (show Blk Y (wr.heap.size + r10.new.size) [.int .i64 e1, .int .i64 v1] by rw [← hY]; (show Blk _ _ _; repeat (first | with_reducible (refine Hid.out ?_; assumption) | with_reducible apply Blk.drew | with_reducible apply Blk.ext | ((with_reducible refine Blk.new _ _ rfl ?_); first | with_reducible rfl | focus (simp; done)) | ((with_reducible apply Blk.newE); first | with_reducible rfl | focus (simp; done)) | with_reducible apply Blk.alloc | with_reducible assumption | with_reducible apply Blk.setE | ((with_reducible refine Blk.other' ?_ ?_); first | omega | (simp; omega)) | (show List.set _ _ _ = _; exact rfl) | focus (show _ < List.length _; simp; done))))
  have HBlY := hid (show Blk Y nl [.int .i64 3, .int .i64 8, .int .i64 0] by rw [← hY]; (show Blk _ _ _; repeat (first | with_reducible (refine Hid.out ?_; assumption) | with_reducible apply Blk.drew | with_reducible apply Blk.ext | ((with_reducible refine Blk.new _ _ rfl ?_); first | with_reducible rfl | focus (simp; done)) | ((with_reducible apply Blk.newE); first | with_reducible rfl | focus (simp; done)) | with_reducible apply Blk.alloc | with_reducible assumption | with_reducible apply Blk.setE | ((with_reducible refine Blk.other' ?_ ?_); first | omega | (simp; omega)) | (show List.set _ _ _ = _; exact rfl) | focus (show _ < List.length _; simp; done))))
  have HByY := hid (show Blk Y ny [.int .i64 n2, .int .i64 v2, .int .i16 e2] by rw [← hY]; (show Blk _ _ _; repeat (first | with_reducible (refine Hid.out ?_; assumption) | with_reducible apply Blk.drew | with_reducible apply Blk.ext | ((with_reducible refine Blk.new _ _ rfl ?_); first | with_reducible rfl | focus (simp; done)) | ((with_reducible apply Blk.newE); first | with_reducible rfl | focus (simp; done)) | with_reducible apply Blk.alloc | with_reducible assumption | with_reducible apply Blk.setE | ((with_reducible refine Blk.other' ?_ ?_); first | omega | (simp; omega)) | (show List.set _ _ _ = _; exact rfl) | focus (show _ < List.length _; simp; done))))
  have HBxY := hid (show Blk Y nx [.int .i64 n1, .int .i64 v1, .int .i16 e1] by rw [← hY]; (show Blk _ _ _; repeat (first | with_reducible (refine Hid.out ?_; assumption) | with_reducible apply Blk.drew | with_reducible apply Blk.ext | ((with_reducible refine Blk.new _ _ rfl ?_); first | with_reducible rfl | focus (simp; done)) | ((with_reducible apply Blk.newE); first | with_reducible rfl | focus (simp; done)) | with_reducible apply Blk.alloc | with_reducible assumption | with_reducible apply Blk.setE | ((with_reducible refine Blk.other' ?_ ?_); first | omega | (simp; omega)) | (show List.set _ _ _ = _; exact rfl) | focus (show _ < List.length _; simp; done))))
  generalize wr.heap.size + r10.new.size = na at *
  clear hY m0 m1 m2 f0 f1 f2 l0 l1 l2 l4 HL HG2 HEk HBlk HByk HBxk hgk HSk
  have HSY := hid (show Sl Y 3 wdE (.slice (some ⟨g, 0, none⟩) 376 c8) (M.set sl (1, 1, 0)) from Sl.of_own wdE_len HLY.out)
  have HMso := hid (show ∀ a ∈ M.set sl (1, 1, 0), WdOk a from set_ok HMo.out ⟨⟨by dsimp only; omega, by dsimp only; omega⟩, ⟨by dsimp only; omega, by dsimp only; omega⟩, ⟨by dsimp only; omega, by dsimp only; omega⟩⟩ _)
  obtain ⟨l0, l1, l2⟩ := HBlY.out.three
  have l4 := HBlY.out.1
  go_wp2_with fail
  refine (asked_any 3 8 0 ((q : Int) + 1) (M.set sl (1, 1, 0)) _ HMso.out (by rw [List.length_set, HMl.out]; omega) _ (HS.out.of (HEY.out.trans (by (show Ext _ _; repeat (first | with_reducible (refine Hid.out ?_; assumption) | with_reducible exact Ext.refl _ | with_reducible refine Ext.ext ?_ _ | with_reducible refine Ext.alloc ?_ _ | refine Ext.drew ?_ | refine Ext.drewN ?_ _ | exact Ext.refl _))))) (HSY.out.of wdE_len (by (show Ext _ _; repeat (first | with_reducible (refine Hid.out ?_; assumption) | with_reducible exact Ext.refl _ | with_reducible refine Ext.ext ?_ _ | with_reducible refine Ext.alloc ?_ _ | refine Ext.drew ?_ | refine Ext.drewN ?_ _ | exact Ext.refl _))))).mono ?_
  rintro e w' ⟨rfl, r13, rfl⟩
  rw [HAsk.out.2]
  dsimp only
  obtain ⟨d0, d1⟩ : Y.cell? ⟨na, 0, none⟩ = some (.int .i64 e1) ∧ Y.cell? ⟨na, 1, none⟩ = some (.int .i64 v1) := ⟨HBan.out.2.2 0 _ rfl, HBan.out.2.2 1 _ rfl⟩
  have d4 := HBan.out.1
  obtain ⟨b0, b1, b2⟩ := HByY.out.three
  have b4 := HByY.out.1
  obtain ⟨c0, c1, c2⟩ := HBxY.out.three
  have c4 := HBxY.out.1
  have hea := eq_ans
  have hga := eq_guard_ans
  go_wp2_with fail
  go_ret
  exact ⟨rfl, HEY.out.trans (by (show Ext _ _; repeat (first | with_reducible (refine Hid.out ?_; assumption) | with_reducible exact Ext.refl _ | with_reducible refine Ext.ext ?_ _ | with_reducible refine Ext.alloc ?_ _ | refine Ext.drew ?_ | refine Ext.drewN ?_ _ | exact Ext.refl _)))⟩

end Go.Proofs.YtlijgheghodfeaaDoor
