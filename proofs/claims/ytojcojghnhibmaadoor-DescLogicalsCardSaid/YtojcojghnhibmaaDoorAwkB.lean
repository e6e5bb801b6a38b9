/- The walk of law 19's example, awake. -/
import Derived.Test.YtojcojghnhibmaaDoorAwkA
namespace Go.Proofs.YtojcojghnhibmaaDoor
set_option linter.unusedSimpArgs false
set_option linter.unusedVariables false
open Go.RowKit

abbrev awkE : List En := [⟨24, 5, 2, 0, 9, true⟩]
abbrev awkX : List Wd := [(1, 3, 0), (1, 0, 0), (24, 1, 0), (5, 2, 0), (9, 0, 0)]
/-- Plain: the image of the example, and the same with status Open. -/
def awkL1 : List Wd := (putL (firstL 1 8 0) awkX 32 5).set 24 (5, 2, 16777219)
def awkL2 : List Wd := awkL1.set 32 (0, 3, 0)
theorem awk_ok : ∀ e ∈ awkE, EnOk e := by
  intro e he
  rw [List.mem_singleton] at he
  subst he
  exact ⟨by decide, by decide, by decide, by decide, by decide, by decide, by decide, by decide, by decide, by decide⟩
theorem awk_len : (firstL 1 8 0).length = 136 := by kernel_rfl
theorem awk_log1 : logicN 1 8 0 awkL1 24 = ((9, 3, 0), 0) := by kernel_rfl
theorem awk_log2 : logicN 1 8 0 awkL2 24 = ((5, 2, 0), 0) := by kernel_rfl
theorem awk_chk : dcheckN 1 8 0 1 3 1 awkE = 0 := by kernel_rfl
theorem awk_ws : wordsW 3 1 awkE = awkX := by kernel_rfl
theorem awk_okL1 : awkL1.all (fun a => decide ((-9223372036854775808 ≤ a.1 ∧ a.1 ≤ 9223372036854775807) ∧ (0 ≤ a.2.1 ∧ a.2.1 ≤ 4294967295) ∧ (0 ≤ a.2.2 ∧ a.2.2 ≤ 4294967295))) = true := by kernel_rfl
theorem awk_okL2 : awkL2.all (fun a => decide ((-9223372036854775808 ≤ a.1 ∧ a.1 ≤ 9223372036854775807) ∧ (0 ≤ a.2.1 ∧ a.2.1 ≤ 4294967295) ∧ (0 ≤ a.2.2 ∧ a.2.2 ≤ 4294967295))) = true := by kernel_rfl
theorem wdok_of {l : List Wd} (h : l.all (fun a => decide ((-9223372036854775808 ≤ a.1 ∧ a.1 ≤ 9223372036854775807) ∧ (0 ≤ a.2.1 ∧ a.2.1 ≤ 4294967295) ∧ (0 ≤ a.2.2 ∧ a.2.2 ≤ 4294967295))) = true) : ∀ a ∈ l, WdOk a := by
  intro a ha
  have := List.all_eq_true.1 h a ha
  rw [decide_eq_true_eq] at this
  exact this

set_option maxRecDepth 100000 in
set_option maxHeartbeats 2000000 in
theorem dawake_any (w : World) (hs : Szs w) :
    Calls Tryd.prog 10 #[] w fun e w' => e = .returned (.bool true) ∧ ∃ r, w' = ext w r := by
  have HS := hid hs
  clear hs
  have hc1 := hid (show atN 1 8 0 3 0 0 = 24 by kernel_rfl)
  have hc2 := hid (show atN 1 8 0 4 (wrap64 (1 - 1)) 0 = 32 by kernel_rfl)
  have hc3 := hid (show sizeN 1 8 0 = 136 by kernel_rfl)
  go_enter Tryd.func10, Tryd.ntmps10
  go_wp2_with fail
  go_call (cell_any 1 8 0 0 _ (HS.out.of (by (show Ext _ _; repeat (first | with_reducible (refine Hid.out ?_; assumption) | with_reducible exact Ext.refl _ | with_reducible refine Ext.ext ?_ _ | with_reducible refine Ext.alloc ?_ _ | refine Ext.drew ?_ | refine Ext.drewN ?_ _ | exact Ext.refl _))))) as e w' ⟨rfl, r1, rfl⟩
  rw [hc1.out]
  go_wp2_with fail
  have hm1 := Own.made (e := 57) (enc := enE) (size := 6) (base := 0) (w := ext (w.alloc (.cells #[.int .i64 1, .int .i64 8, .int .i64 0] 30)) r1) #[.int .i64 24, .int .i64 5, .int .u32 2, .int .u32 0, .int .i64 9, .bool true] awkE 1 rfl (by omega) (by unfold maxLen; omega) rfl rfl
  simp only [size_ext, World.size_alloc] at hm1
  have HM := hid (Sl.of_own enE_len hm1)
  clear hm1
  refine (dwords_any 1 8 0 1 3 1 (by omega) (by omega) awkE _ awk_ok _ (HS.out.of (by (show Ext _ _; repeat (first | with_reducible (refine Hid.out ?_; assumption) | with_reducible exact Ext.refl _ | with_reducible refine Ext.ext ?_ _ | with_reducible refine Ext.alloc ?_ _ | refine Ext.drew ?_ | refine Ext.drewN ?_ _ | exact Ext.refl _)))) (HM.out.of enE_len (by (show Ext _ _; repeat (first | with_reducible (refine Hid.out ?_; assumption) | with_reducible exact Ext.refl _ | with_reducible refine Ext.ext ?_ _ | with_reducible refine Ext.alloc ?_ _ | refine Ext.drew ?_ | refine Ext.drewN ?_ _ | exact Ext.refl _))))).mono ?_
  rintro y w' ⟨v4, rfl, ⟨r2, rfl⟩, hv4⟩
  rw [awk_chk] at hv4 ⊢
  rw [if_pos rfl, awk_ws] at hv4
  obtain ⟨a4, c4, rfl⟩ := Own.shape hv4
  have HV4 := hid (Sl.of_own wdE_len hv4)
  clear hv4 HM
  go_wp2_with fail
  refine (ref_any 1 3 _).mono ?_
  rintro e w' ⟨rfl, r3, rfl⟩
  rw [show refN 1 3 = (16777219, 0) by kernel_rfl]
  go_wp2_with fail
  generalize hW : ext _ r3 = W
  have HWx := hid (show Ext w W by rw [← hW]; (show Ext _ _; repeat (first | with_reducible (refine Hid.out ?_; assumption) | with_reducible exact Ext.refl _ | with_reducible refine Ext.ext ?_ _ | with_reducible refine Ext.alloc ?_ _ | with_reducible refine Ext.drew ?_ | with_reducible refine Ext.setCell ?_ (by (try dsimp only); first | omega | (simp; done) | (simp; omega)) _)))
  have HX4 := hid (show Sl W 3 wdE (.slice a4 awkX.length c4) awkX from HV4.out.of wdE_len (by rw [← hW]; (show Ext _ _; repeat (first | with_reducible (refine Hid.out ?_; assumption) | with_reducible exact Ext.refl _ | with_reducible refine Ext.ext ?_ _ | with_reducible refine Ext.alloc ?_ _ | with_reducible refine Ext.drew ?_ | with_reducible refine Ext.setCell ?_ (by (try dsimp only); first | omega | (simp; done) | (simp; omega)) _))))
  have HB1 := hid (show Blk W w.heap.size [.int .i64 1, .int .i64 8, .int .i64 0] by rw [← hW]; (show Blk _ _ _; repeat (first | with_reducible (refine Hid.out ?_; assumption) | with_reducible refine Blk.drew ?_ | with_reducible refine Blk.ext ?_ _ | (with_reducible refine Blk.new _ _ rfl ?_; first | with_reducible rfl | (simp; done)) | with_reducible refine Blk.alloc ?_ _ | with_reducible assumption | with_reducible apply Blk.setE | (with_reducible refine Blk.other' ?_ ?_; first | omega | (simp; omega)) | (show List.set _ _ _ = _; exact rfl) | (show _ < List.length _; simp; done))))
  clear hW HV4
  have b0 := HB1.out.2.2 0 _ rfl
  have b1 := HB1.out.2.2 1 _ rfl
  have b2 := HB1.out.2.2 2 _ rfl
  have b3 := HB1.out.1
  have HSW := hid (HS.out.of HWx.out)
  have b0' := b0
  have b1' := b1
  have b2' := b2
  refine (first_any 1 8 0 _ HSW.out).mono ?_
  rintro e w' ⟨v8, rfl, ⟨r4, rfl⟩, hv8⟩
  obtain ⟨g, c8, rfl, hg1, hg2⟩ := Ws.open hv8 (by rw [awk_len]; omega)
  rw [awk_len] at hv8 ⊢
  generalize hV : ext W r4 = V at *
  have HXV := hid (show Ext W V by rw [← hV]; (show Ext _ _; repeat (first | with_reducible (refine Hid.out ?_; assumption) | with_reducible exact Ext.refl _ | with_reducible refine Ext.ext ?_ _ | with_reducible refine Ext.alloc ?_ _ | with_reducible refine Ext.drew ?_ | with_reducible refine Ext.setCell ?_ (by (try dsimp only); first | omega | (simp; done) | (simp; omega)) _)))
  have HV8 := hid hv8
  clear hv8 hV
  have d0 := HXV.out.cell b0
  have d1 := HXV.out.cell b1
  have d2 := HXV.out.cell b2
  have d3 := Nat.lt_of_lt_of_le b3 HXV.out.size
  clear b0 b1 b2
  go_wp2_with fail
  go_call (slot_any 1 8 0 1 _ (HSW.out.of (HXV.out.trans (by (show Ext _ _; repeat (first | with_reducible (refine Hid.out ?_; assumption) | with_reducible exact Ext.refl _ | with_reducible refine Ext.ext ?_ _ | with_reducible refine Ext.alloc ?_ _ | refine Ext.drew ?_ | refine Ext.drewN ?_ _ | exact Ext.refl _)))))) as e w' ⟨rfl, r5, rfl⟩
  rw [hc2.out]
  go_wp2_with fail
  go_call (size_any 1 8 0 _ (HSW.out.of (HXV.out.trans (by (show Ext _ _; repeat (first | with_reducible (refine Hid.out ?_; assumption) | with_reducible exact Ext.refl _ | with_reducible refine Ext.ext ?_ _ | with_reducible refine Ext.alloc ?_ _ | refine Ext.drew ?_ | refine Ext.drewN ?_ _ | exact Ext.refl _)))))) as e w' ⟨rfl, r6, rfl⟩
  rw [hc3.out]
  go_wp2_with fail
  go_loopw [10] (fun i wr => ∃ j : Nat, j ≤ 5 ∧ i = .int .i64 j ∧ Hid (Ws wr W.heap.size (.slice (some ⟨g, 0, none⟩) 136 c8) (putL (firstL 1 8 0) awkX 32 j)) ∧ Hid (Ext W wr)) (fun i _ => 5 - (intOf i).toNat)
  case atStart => exact ⟨0, by omega, rfl, hid ((Own.ext (Own.ext HV8.out _) _)), hid (HXV.out.trans (by (show Ext _ _; repeat (first | with_reducible (refine Hid.out ?_; assumption) | with_reducible exact Ext.refl _ | with_reducible refine Ext.ext ?_ _ | with_reducible refine Ext.alloc ?_ _ | refine Ext.drew ?_ | refine Ext.drewN ?_ _ | exact Ext.refl _))))⟩
  case round =>
    clear HV8 HXV d0 d1 d2 d3
    obtain ⟨j, hj, rfl, HL, HX⟩ := hrel
    by_cases hj5 : j < 5
    · have hd : decide ((j : Int) < 5) = true := decide_eq_true (by omega)
      obtain ⟨⟨x1, x2, x3⟩, hx⟩ : ∃ x, awkX[j]? = some x := ⟨_, List.getElem?_eq_getElem hj5⟩
      have HN := hid (putL_succ (L := firstL 1 8 0) (p := 32) hx)
      obtain ⟨q0, b, o, ha4, hbl, hcx⟩ := Sl.at (HX4.out.of wdE_len HX.out) hx
      subst ha4
      have k0 := hcx 0 (by omega)
      have k1 := hcx 1 (by omega)
      have k2 := hcx 2 (by omega)
      simp [wdE] at k0 k1 k2
      have hlen : (putL (firstL 1 8 0) awkX 32 j).length = 136 := by rw [putL_len, awk_len]
      obtain ⟨⟨y1, y2, y3⟩, hy⟩ : ∃ y, (putL (firstL 1 8 0) awkX 32 j)[32 + j]? = some y := ⟨_, List.getElem?_eq_getElem (by rw [hlen]; omega)⟩
      obtain ⟨m0, m1, m2⟩ := Ws.cells HL.out hy
      have f0 := Ws.free HL.out ((32 + j) * 3)
      have f1 := Ws.free HL.out ((32 + j) * 3 + 1)
      have f2 := Ws.free HL.out ((32 + j) * 3 + 2)
      have HLn := hid hlen
      have hjj : (j : Int) < 5 := by omega
      have t1 : ((32 : Int) + (j : Int)).toNat = 32 + j := by omega
      have t0 : (0 : Int) ≤ 32 + (j : Int) := by omega
      have t2 : (32 : Int) + (j : Int) < 136 := by omega
      clear hcx q0 hx hy hlen
      go_wp2_with fail
      go_roundw
      case rel => exact ⟨j + 1, by omega, by go_num, hid (by rw [HN.out]; exact Ws.put HL.out (by rw [HLn.out]; omega) x1 x2 x3), hid (by (show Ext _ _; repeat (first | with_reducible (refine Hid.out ?_; assumption) | with_reducible exact Ext.refl _ | with_reducible refine Ext.ext ?_ _ | with_reducible refine Ext.alloc ?_ _ | with_reducible refine Ext.drew ?_ | with_reducible refine Ext.setCell ?_ (by (try dsimp only); first | omega | (simp; done) | (simp; omega)) _)))⟩
      case measure => simp [intOf]; omega
    · have hd : decide ((j : Int) < 5) = false := decide_eq_false (by omega)
      obtain rfl : j = 5 := by omega
      have e0 := HX.out.cell b0'
      have e1 := HX.out.cell b1'
      have e2 := HX.out.cell b2'
      have e3 := Nat.lt_of_lt_of_le b3 HX.out.size
      have hlen : (putL (firstL 1 8 0) awkX 32 5).length = 136 := by rw [putL_len, awk_len]
      obtain ⟨⟨y1, y2, y3⟩, hy⟩ : ∃ y, (putL (firstL 1 8 0) awkX 32 5)[24]? = some y := ⟨_, List.getElem?_eq_getElem (by rw [hlen]; omega)⟩
      obtain ⟨m0, m1, m2⟩ := Ws.cells HL.out hy
      have f0 := Ws.free HL.out (24 * 3)
      have f1 := Ws.free HL.out (24 * 3 + 1)
      have f2 := Ws.free HL.out (24 * 3 + 2)
      have HLn := hid hlen
      have HL1 := hid (show Ws (((wr.setCell ⟨g, 24 * 3, none⟩ (.int .i64 5)).setCell ⟨g, 24 * 3 + 1, none⟩ (.int .u32 2)).setCell ⟨g, 24 * 3 + 2, none⟩ (.int .u32 16777219)) W.heap.size (.slice (some ⟨g, 0, none⟩) 136 c8) awkL1 from Ws.put HL.out (by rw [hlen]; omega) 5 2 16777219)
      simp only [Nat.reduceMul, Nat.reduceAdd] at m0 m1 m2 f0 f1 f2 HL1
      clear hlen hy
      go_wp2_with fail
      generalize hU : World.setCell _ _ _ = U at *
      have HXU := hid (show Ext W U by rw [← hU]; (show Ext _ _; repeat (first | with_reducible (refine Hid.out ?_; assumption) | with_reducible exact Ext.refl _ | with_reducible refine Ext.ext ?_ _ | with_reducible refine Ext.alloc ?_ _ | with_reducible refine Ext.drew ?_ | with_reducible refine Ext.setCell ?_ (by (try dsimp only); first | omega | (simp; done) | (simp; omega)) _)))
      have u0 := HXU.out.cell b0'
      have u1 := HXU.out.cell b1'
      have u2 := HXU.out.cell b2'
      have u3 := Nat.lt_of_lt_of_le b3 HXU.out.size
      clear e0 e1 e2 e3 m0 m1 m2 f0 f1 f2 hU
      refine (logical_any 1 8 0 24 (by omega) (by omega) awkL1 _ (wdok_of awk_okL1) _ (HSW.out.of HXU.out) (Sl.of_own wdE_len HL1.out)).mono ?_
      rintro y w' ⟨rfl, r7, rfl⟩
      rw [awk_log1]
      dsimp only
      go_wp2_with fail
      refine (status_any 0 3 (by omega) (by omega) _).mono ?_
      rintro e w' ⟨rfl, r8, rfl⟩
      generalize hU2 : ext _ r8 = U2
      have HB11 := hid (show Blk U2 (U.heap.size + r7.new.size) [.int .i64 9, .int .u32 3, .int .u32 0] by rw [← hU2]; (show Blk _ _ _; repeat (first | with_reducible (refine Hid.out ?_; assumption) | with_reducible refine Blk.drew ?_ | with_reducible refine Blk.ext ?_ _ | (with_reducible refine Blk.new _ _ rfl ?_; first | with_reducible rfl | (simp; done)) | with_reducible refine Blk.alloc ?_ _ | with_reducible assumption | with_reducible apply Blk.setE | (with_reducible refine Blk.other' ?_ ?_; first | omega | (simp; omega)) | (show List.set _ _ _ = _; exact rfl) | (show _ < List.length _; simp; done))))
      have HXU2 := hid (show Ext U U2 by rw [← hU2]; (show Ext _ _; repeat (first | with_reducible (refine Hid.out ?_; assumption) | with_reducible exact Ext.refl _ | with_reducible refine Ext.ext ?_ _ | with_reducible refine Ext.alloc ?_ _ | with_reducible refine Ext.drew ?_ | with_reducible refine Ext.setCell ?_ (by (try dsimp only); first | omega | (simp; done) | (simp; omega)) _)))
      clear hU2
      have HLb := hid (HL1.out.of HXU2.out)
      have hlen2 : awkL1.length = 136 := by kernel_rfl
      obtain ⟨⟨y1, y2, y3⟩, hy⟩ : ∃ y, awkL1[32]? = some y := ⟨_, List.getElem?_eq_getElem (by rw [hlen2]; omega)⟩
      obtain ⟨m0, m1, m2⟩ := Ws.cells HLb.out hy
      have f0 := Ws.free HLb.out (32 * 3)
      have f1 := Ws.free HLb.out (32 * 3 + 1)
      have f2 := Ws.free HLb.out (32 * 3 + 2)
      have HL2 := hid (show Ws (((U2.setCell ⟨g, 32 * 3, none⟩ (.int .i64 0)).setCell ⟨g, 32 * 3 + 1, none⟩ (.int .u32 3)).setCell ⟨g, 32 * 3 + 2, none⟩ (.int .u32 0)) W.heap.size (.slice (some ⟨g, 0, none⟩) 136 c8) awkL2 from Ws.put HLb.out (by rw [hlen2]; omega) 0 3 0)
      have HB11b := hid (show Blk (((U2.setCell ⟨g, 32 * 3, none⟩ (.int .i64 0)).setCell ⟨g, 32 * 3 + 1, none⟩ (.int .u32 3)).setCell ⟨g, 32 * 3 + 2, none⟩ (.int .u32 0)) (U.heap.size + r7.new.size) [.int .i64 9, .int .u32 3, .int .u32 0] from ((HB11.out.other (by have := Ws.gt HL1.out (by rw [hlen2]; omega); omega) _).other (by have := Ws.gt HL1.out (by rw [hlen2]; omega); omega) _).other (by have := Ws.gt HL1.out (by rw [hlen2]; omega); omega) _)
      simp only [Nat.reduceMul, Nat.reduceAdd] at m0 m1 m2 f0 f1 f2 HL2 HB11b
      have HXW2 := hid (HXU.out.trans HXU2.out)
      have p0 := HXW2.out.cell b0'
      have p1 := HXW2.out.cell b1'
      have p2 := HXW2.out.cell b2'
      have p3 := Nat.lt_of_lt_of_le b3 HXW2.out.size
      clear hlen2 hy HB11 HLb HL1 u0 u1 u2 u3
      go_wp2_with fail
      generalize hU3 : World.setCell _ _ _ = U3 at *
      have HXU3 := hid (show Ext W U3 by rw [← hU3]; (show Ext _ _; repeat (first | with_reducible (refine Hid.out ?_; assumption) | with_reducible exact Ext.refl _ | with_reducible refine Ext.ext ?_ _ | with_reducible refine Ext.alloc ?_ _ | with_reducible refine Ext.drew ?_ | with_reducible refine Ext.setCell ?_ (by (try dsimp only); first | omega | (simp; done) | (simp; omega)) _)))
      clear hU3 m0 m1 m2 f0 f1 f2 p0 p1 p2 p3
      have u0 := HXU3.out.cell b0'
      have u1 := HXU3.out.cell b1'
      have u2 := HXU3.out.cell b2'
      have u3 := Nat.lt_of_lt_of_le b3 HXU3.out.size
      refine (logical_any 1 8 0 24 (by omega) (by omega) awkL2 _ (wdok_of awk_okL2) _ (HSW.out.of HXU3.out) (Sl.of_own wdE_len HL2.out)).mono ?_
      rintro y w' ⟨rfl, r9, rfl⟩
      rw [awk_log2]
      dsimp only
      have v0 := HB11b.out.2.2 0 _ rfl
      have v1 := HB11b.out.2.2 1 _ rfl
      have v2 := HB11b.out.2.2 2 _ rfl
      have v3 := HB11b.out.1
      have hx0 : awkX[0]? = some (1, 3, 0) := rfl
      have hx2 : awkX[2]? = some (24, 1, 0) := rfl
      have hx4 : awkX[4]? = some (9, 0, 0) := rfl
      obtain ⟨_, b, o, ha4, hbl, hz0⟩ := Sl.at (HX4.out.of wdE_len HXU3.out) hx0
      subst ha4
      obtain ⟨_, _, _, ha4, _, hz2⟩ := Sl.at (HX4.out.of wdE_len HXU3.out) hx2
      cases ha4
      obtain ⟨_, _, _, ha4, _, hz4⟩ := Sl.at (HX4.out.of wdE_len HXU3.out) hx4
      cases ha4
      have k0 := hz0 0 (by omega)
      have k1 := hz0 1 (by omega)
      have k2 := hz0 2 (by omega)
      have k3 := hz2 0 (by omega)
      have k4 := hz2 1 (by omega)
      have k5 := hz2 2 (by omega)
      have k6 := hz4 0 (by omega)
      have k7 := hz4 1 (by omega)
      have k8 := hz4 2 (by omega)
      simp [wdE] at k0 k1 k2 k3 k4 k5 k6 k7 k8
      have hEq := eq_word
      have hGa := eq_guard_word
      have hT1 : wdB (1, 3, 0) (1, 3, 0) = true := wdB_self _
      have hT2 : wdB (24, 1, 0) (24, 1, 0) = true := wdB_self _
      have hT3 : wdB (9, 0, 0) (9, 0, 0) = true := wdB_self _
      have hT4 : wdB (9, 3, 0) (9, 3, 0) = true := wdB_self _
      have hT5 : wdB (5, 2, 0) (5, 2, 0) = true := wdB_self _
      clear hz0 hz2 hz4 hx0 hx2 hx4
      go_wp2_with fail
      go_ret
      exact ⟨rfl, HWx.out.trans (by (show Ext _ _; repeat (first | with_reducible (refine Hid.out ?_; assumption) | with_reducible exact Ext.refl _ | with_reducible refine Ext.ext ?_ _ | with_reducible refine Ext.alloc ?_ _ | with_reducible refine Ext.drew ?_ | with_reducible refine Ext.setCell ?_ (by (try dsimp only); first | omega | (simp; done) | (simp; omega)) _)))⟩

end Go.Proofs.YtojcojghnhibmaaDoor
