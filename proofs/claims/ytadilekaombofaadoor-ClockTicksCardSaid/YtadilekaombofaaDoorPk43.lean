/- The law ClockTicks, walked: some picks. -/
import Derived.Test.YtadilekaombofaaDoorPk42
namespace Go.Proofs.YtadilekaombofaaDoor
set_option linter.unusedSimpArgs false
set_option linter.unusedVariables false
open Go.RowKit Go.Maps
set_option maxRecDepth 100000 in
set_option maxHeartbeats 4000000 in
theorem clticks_some (time : Int) (sa0 sb0 sc0 : Bool) (qb qo : Nat) {qn qc : Nat} {l : List Pk} {w : World} (hs : Szs w) (hl : Sl w 3 pkE (.slice (some ⟨qb, qo, none⟩) qn qc) l) : Calls Tryd.prog 3 #[.int .i64 time, .agg #[.bool sa0, .bool sb0, .bool sc0], .slice (some ⟨qb, qo, none⟩) qn qc] w fun e w' => e = .returned (.bool true) ∧ Ext w w' := by
 have hqn : qn = l.length := by obtain ⟨a', c', hv, _⟩ := hl; simp only [Value.slice.injEq] at hv; exact hv.2.1
 have HS := hid hs
 have HL := hid hl
 have HQ := hid hqn
 clear hs hl hqn
 by_cases h1 : 100 < qn
 ·have h1i : (100 : Int) < (qn : Int) := by omega
  have h1d : decide ((100 : Int) < (qn : Int)) = true := decide_eq_true h1i
  clear h1
  go_enter Tryd.func3, Tryd.ntmps3
  go_wp2_with fail
  refine (awake26_any (HS.out.of (by (show Ext _ _; repeat first | (with_reducible first | (refine xH ?_; assumption) | exact xR _ | refine xX ?_ _ | refine xA ?_ _) | refine xD ?_ | refine xN ?_ _ | exact xR _)))).mono ?_
  rintro e w6 ⟨rfl, r6, rfl⟩
  go_wp2_with fail
  go_ret
  exact ⟨rfl, by (show Ext _ _; repeat first | (with_reducible first | (refine xH ?_; assumption) | exact xR _ | refine xX ?_ _ | refine xA ?_ _) | refine xD ?_ | refine xN ?_ _ | exact xR _)⟩
 have h1i : ¬ (100 : Int) < (qn : Int) := by omega
 have h1j : (qn : Int) ≤ 100 := by omega
 have h1d : decide ((100 : Int) < (qn : Int)) = false := decide_eq_false h1i
 have HQ2 := hid (show qn ≤ 100 by omega)
 clear h1
 by_cases h2 : time < -1125899906842624
 ·have h2d : decide (time < -1125899906842624) = true := decide_eq_true h2
  go_enter Tryd.func3, Tryd.ntmps3
  go_wp2_with fail
  refine (awake26_any (HS.out.of (by (show Ext _ _; repeat first | (with_reducible first | (refine xH ?_; assumption) | exact xR _ | refine xX ?_ _ | refine xA ?_ _) | refine xD ?_ | refine xN ?_ _ | exact xR _)))).mono ?_
  rintro e w6 ⟨rfl, r6, rfl⟩
  go_wp2_with fail
  go_ret
  exact ⟨rfl, by (show Ext _ _; repeat first | (with_reducible first | (refine xH ?_; assumption) | exact xR _ | refine xX ?_ _ | refine xA ?_ _) | refine xD ?_ | refine xN ?_ _ | exact xR _)⟩
 have h2i : (-1125899906842624 : Int) ≤ time := by omega
 have h2d : decide (time < -1125899906842624) = false := decide_eq_false h2
 by_cases h3 : 1125899906842624 < time
 ·have h3d : decide ((1125899906842624 : Int) < time) = true := decide_eq_true h3
  go_enter Tryd.func3, Tryd.ntmps3
  go_wp2_with fail
  refine (awake26_any (HS.out.of (by (show Ext _ _; repeat first | (with_reducible first | (refine xH ?_; assumption) | exact xR _ | refine xX ?_ _ | refine xA ?_ _) | refine xD ?_ | refine xN ?_ _ | exact xR _)))).mono ?_
  rintro e w6 ⟨rfl, r6, rfl⟩
  go_wp2_with fail
  go_ret
  exact ⟨rfl, by (show Ext _ _; repeat first | (with_reducible first | (refine xH ?_; assumption) | exact xR _ | refine xX ?_ _ | refine xA ?_ _) | refine xD ?_ | refine xN ?_ _ | exact xR _)⟩
 have h3i : time ≤ 1125899906842624 := by omega
 have h3d : decide ((1125899906842624 : Int) < time) = false := decide_eq_false h3
 have HT := hid (show -1125899906842624 ≤ time ∧ time ≤ 1125899906842624 from ⟨h2i, h3i⟩)
 have hmm := @run_makeMap Tryd.prog
 go_enter Tryd.func3, Tryd.ntmps3
 go_wp2_with fail
 generalize hV_ : World.alloc _ _ = V
 have HE_V := hid (show Ext w V by rw [← hV_]; (show Ext _ _; repeat first | (with_reducible first | (refine xH ?_; assumption) | exact xR _ | refine xX ?_ _ | refine xA ?_ _) | refine xD ?_ | refine xN ?_ _ | exact xR _))
 have HB_b4 := hid (show Blk V (w.heap.size) [.bool sa0, .bool sb0, .bool sc0] by rw [← hV_]; (show Blk _ _ _; repeat first | (with_reducible first | (refine xH ?_; assumption) | refine bD ?_ | refine bX ?_ _) | (with_reducible refine bN _ _ rfl ?_; first | with_reducible rfl | (simp; done)) | (with_reducible first | refine bA ?_ _ | assumption | apply bS) | (with_reducible refine bO ?_ ?_; first | omega | (simp; omega)) | (show List.set _ _ _ = _; exact rfl) | (show _ < List.length _; simp; done)))
 have HB_b7 := hid (show Blk V (w.heap.size + 1) [.bool sa0, .bool sb0, .bool sc0] by rw [← hV_]; (show Blk _ _ _; repeat first | (with_reducible first | (refine xH ?_; assumption) | refine bD ?_ | refine bX ?_ _) | (with_reducible refine bN _ _ rfl ?_; first | with_reducible rfl | (simp; done)) | (with_reducible first | refine bA ?_ _ | assumption | apply bS) | (with_reducible refine bO ?_ ?_; first | omega | (simp; omega)) | (show List.set _ _ _ = _; exact rfl) | (show _ < List.length _; simp; done)))
 clear hV_
 obtain ⟨b7, hg_b7⟩ : ∃ g, g = w.heap.size + 1 := ⟨_, rfl⟩
 simp only [← hg_b7] at HB_b7 ⊢
 obtain ⟨b4, hg_b4⟩ : ∃ g, g = w.heap.size := ⟨_, rfl⟩
 simp only [← hg_b4] at HB_b4 ⊢
 have HN_V := hid (show b4 = w.heap.size ∧ b7 = w.heap.size + 1 ∧ b7 < V.heap.size from ⟨hg_b4, hg_b7, HB_b7.out.1⟩)
 clear hg_b4 hg_b7
 refine (start26_any (HS.out.of HE_V.out) time (three_sl HB_b7.out) three_le).mono ?_
 rintro e w1 ⟨v1, rfl, he, hv⟩
 have HE_1 := hid (Ext.trans HE_V.out he)
 have HBt := hid (HB_b7.out.of he)
 clear he HB_b4 HB_b7
 obtain ⟨pa, va, fa, la, sa, ta, ba, pn, pc, vn, vc, fn, fc, ln, lc, sn, sc, tn, tc, bn, bc, rfl, hw⟩ := hv
 have HW := hid (WR.imp (P' := fun b => w.heap.size ≤ b) hw (fun b h => Nat.le_trans HE_V.out.size h))
 clear hw
 go_upto_region 8 with fail
 generalize hV_ : World.alloc _ _ = X
 have HE_X := hid (HE_1.out.trans (show Ext w1 X by rw [← hV_]; (show Ext _ _; repeat first | (with_reducible first | (refine xH ?_; assumption) | exact xR _ | refine xX ?_ _ | refine xA ?_ _) | refine xD ?_ | refine xN ?_ _ | exact xR _)))
 have HB_b8 := hid (show Blk X (w1.heap.size) [.slice pa pn pc, .slice va vn vc, .slice fa fn fc, .slice la ln lc, .map none, .slice sa sn sc, .int .i64 0, .slice ta tn tc, .slice ba bn bc] by rw [← hV_]; (show Blk _ _ _; repeat first | (with_reducible first | (refine xH ?_; assumption) | refine bD ?_ | refine bX ?_ _) | (with_reducible refine bN _ _ rfl ?_; first | with_reducible rfl | (simp; done)) | (with_reducible first | refine bA ?_ _ | assumption | apply bS) | (with_reducible refine bO ?_ ?_; first | omega | (simp; omega)) | (show List.set _ _ _ = _; exact rfl) | (show _ < List.length _; simp; done)))
 have HM_X := hid (show Met26 X (w1.heap.size + 1) 0 (fun _ => false) by rw [← hV_]; exact MapF.made _ _ _ (by simp))
 have HX1 := hid (show Ext w1 X by rw [← hV_]; (show Ext _ _; repeat first | (with_reducible first | (refine xH ?_; assumption) | exact xR _ | refine xX ?_ _ | refine xA ?_ _) | refine xD ?_ | refine xN ?_ _ | exact xR _))
 clear hV_
 obtain ⟨mb, hg_mb⟩ : ∃ g, g = w1.heap.size + 1 := ⟨_, rfl⟩
 simp only [← hg_mb] at HM_X ⊢
 obtain ⟨b8, hg_b8⟩ : ∃ g, g = w1.heap.size := ⟨_, rfl⟩
 simp only [← hg_b8] at HB_b8 ⊢
 have HNX := hid (show w.heap.size ≤ w1.heap.size ∧ b8 = w1.heap.size ∧ mb = b8 + 1 ∧ mb < X.heap.size from ⟨HE_1.out.size, hg_b8, by rw [hg_mb, hg_b8], MapF.lt _ HM_X.out⟩)
 have HNB := hid (show w1.heap.size ≤ b8 ∧ b8 < X.heap.size ∧ b7 ≠ b8 ∧ b7 ≠ mb ∧ w.heap.size ≤ b8 ∧ mb ≠ b8 by
  have h1 := HNX.out
  have h2 := HBt.out.1
  omega)
 have HNM := hid (show ¬ ((w.heap.size ≤ mb ∧ mb < w1.heap.size) ∨ X.heap.size ≤ mb) ∧ w.heap.size ≤ mb by
  have h1 := HNX.out
  omega)
 have HBt7 := hid (HBt.out.of HX1.out)
 clear hg_mb hg_b8
 clear h1i h1j h1d h2 h2i h2d h3 h3i h3d
 go_wp2_with fail
 go_loopw [10, 58] (fun d_ i_ wr => ∃ (j : Nat), j ≤ qn ∧ i_ = .int .i64 j ∧ ∃ (pa1 va1 fa1 la1 sa1 ta1 ba1 : Option Addr) (pn1 pc1 vn1 vc1 fn1 fc1 ln1 lc1 sn1 sc1 tn1 tc1 bn1 bc1 : Nat) (m : Mc) (ts : List (Tk ckK.C)) (bs : List Bool) (cv : Int) (n : Nat) (f : Int → Bool) (dv : Int), d_ = .int .i64 dv ∧ Hid (dv = cv - time) ∧ Hid (Blk wr b8 [.slice pa1 pn1 pc1, .slice va1 vn1 vc1, .slice fa1 fn1 fc1, .slice la1 ln1 lc1, .map none, .slice sa1 sn1 sc1, .int .i64 0, .slice ta1 tn1 tc1, .slice ba1 bn1 bc1]) ∧ Hid (Blk wr b7 [.bool sa0, .bool sb0, .bool sc0]) ∧ Hid (WR ckK wr (fun b => (w.heap.size ≤ b ∧ b < w1.heap.size) ∨ X.heap.size ≤ b) (.slice pa1 pn1 pc1) (.slice va1 vn1 vc1) (.slice fa1 fn1 fc1) (.slice la1 ln1 lc1) (.slice sa1 sn1 sc1) (.slice ta1 tn1 tc1) (.slice ba1 bn1 bc1) m ts bs) ∧ Hid (Gr2 b8 mb X wr ∧ Ext w wr) ∧ Hid ((Met26 wr mb n f ∧ n ≤ j) ∧ ∀ x, f x = decide (time + 1 ≤ x ∧ x ≤ cv)) ∧ Hid (G26 m (cv, 0, 0) j ∧ Inv time cv [sa0, sb0, sc0] ts j ∧ bs.length = 3)) (fun _ i_ _ => qn - (intOf i_).toNat)
 case atStart =>
  refine ⟨0, Nat.zero_le _, rfl, pa, va, fa, la, sa, ta, ba, pn, pc, vn, vc, fn, fc, ln, lc, sn, sc, tn, tc, bn, bc, _, _, _, time, 0, _, 0, rfl, hid (by rw [Int.sub_self]), HB_b8, HBt7, hid (WR.imp (WR.of HW.out.bnd HX1.out) (fun b hb => .inl hb)), hid ⟨Gr2.refl, HE_X.out⟩, hid ⟨⟨HM_X.out, Nat.le_refl _⟩, met_start time⟩, hid ⟨mc26_good time, Inv.start time [sa0, sb0, sc0] rfl HT.out, rfl⟩⟩
 case round =>
  clear HB_b8 HW HM_X HBt7
  obtain ⟨j, hjn, rfl, pa1, va1, fa1, la1, sa1, ta1, ba1, pn1, pc1, vn1, vc1, fn1, fc1, ln1, lc1, sn1, sc1, tn1, tc1, bn1, bc1, m, ts, bs, cv, n, f, dv, rfl, HD, HB, HB7r, HW, HG, HMt, HI⟩ := hrel
  have HJn := hid hjn
  clear hjn
  have HEr := hid HG.out.2
  by_cases hjm : j < qn
  ·have hjm2 : (j : Int) < (qn : Int) := lt_int hjm
   obtain ⟨⟨k1, k2, k3⟩, hp⟩ : ∃ x, l[j]? = some x := ⟨l[j]'(by rw [← HQ.out]; exact hjm), List.getElem?_eq_getElem _⟩
   obtain ⟨hx_, qb1, qo1, hqa, hqb, hqx⟩ := (HL.out.of pkE_len HEr.out).at hp
   obtain ⟨rfl, rfl⟩ : qb = qb1 ∧ qo = qo1 := by simpa using hqa
   obtain ⟨jq, hjq⟩ : ∃ x, x = j + 1 := ⟨_, rfl⟩
   have hwq : wrap64 ((j : Int) + 1) = (jq : Int) := wq3 (Nat.lt_of_lt_of_le hjm (Nat.le_trans HQ2.out (by decide))) hjq
   have HJm := hid hjm
   have HJq := hid hjq
   have x0 := hqx 0 (by decide)
   have x1 := hqx 1 (by decide)
   have x2 := hqx 2 (by decide)
   simp [pkE] at x0 x1 x2
   clear hp hx_ hqx hjm hjq hqa
   go_upto_region 11 with fail
   generalize hV_ : World.alloc _ _ = Y
   have HE_Y := hid (show Ext wr Y by rw [← hV_]; (show Ext _ _; repeat first | (with_reducible first | (refine xH ?_; assumption) | exact xR _ | refine xX ?_ _ | refine xA ?_ _) | refine xD ?_ | refine xN ?_ _ | exact xR _))
   have HB_b13 := hid (show Blk Y (wr.heap.size) [.int .i64 k1, .int .i64 k2, .int .i64 k3] by rw [← hV_]; (show Blk _ _ _; repeat first | (with_reducible first | (refine xH ?_; assumption) | refine bD ?_ | refine bX ?_ _) | (with_reducible refine bN _ _ rfl ?_; first | with_reducible rfl | (simp; done)) | (with_reducible first | refine bA ?_ _ | assumption | apply bS) | (with_reducible refine bO ?_ ?_; first | omega | (simp; omega)) | (show List.set _ _ _ = _; exact rfl) | (show _ < List.length _; simp; done)))
   clear hV_
   obtain ⟨b13, hg_b13⟩ : ∃ g, g = wr.heap.size := ⟨_, rfl⟩
   simp only [← hg_b13] at HB_b13 ⊢
   have HN_Y := hid (show b13 = wr.heap.size ∧ b13 < Y.heap.size from ⟨hg_b13, HB_b13.out.1⟩)
   clear hg_b13
   clear x0 x1 x2 hqb
   have e0 := (HB_b13.out).2.2 0 _ rfl
   have e1 := (HB_b13.out).2.2 1 _ rfl
   have e2 := (HB_b13.out).2.2 2 _ rfl
   have ef := (HB_b13.out).2.1
   have eg := (HB_b13.out).1
   by_cases hk1 : k1 = 2
   ·subst hk1
    go_wp2_with fail
    go_roundw
    case rel => exact ⟨jq, le_next HJm.out HJq.out, by first | exact slot_next' hwq | exact slot_next HJq.out | (rw [hwq]), _, _, _, _, _, _, _, _, _, _, _, _, _, _, _, _, _, _, _, _, _, m, ts, bs, cv, n, f, dv, rfl, HD, hid (HB.out.of HE_Y.out), hid (HB7r.out.of HE_Y.out), hid (WR.of HW.out HE_Y.out), hid ⟨HG.out.1.of HE_Y.out, HG.out.2.trans HE_Y.out⟩, hid ⟨⟨Met26.of HMt.out.1.1 HE_Y.out, by rw [HJq.out]; exact Nat.le_succ_of_le HMt.out.1.2⟩, HMt.out.2⟩, hid ⟨by rw [HJq.out]; exact HI.out.1.up, by rw [HJq.out]; exact HI.out.2.1.up, HI.out.2.2⟩⟩
    case measure => first | exact meas_next2 HJm.out HJq.out | exact meas_next3 hwq HJm.out HJq.out | exact meas_next HJm.out HJq.out
   ·have hk1d : (k1 = 2) = False := eq_false hk1
    have h1 := HB.out.of HE_Y.out
    have f0 := (h1).2.2 0 _ rfl
    have f1 := (h1).2.2 1 _ rfl
    have f2 := (h1).2.2 2 _ rfl
    have f3 := (h1).2.2 3 _ rfl
    have f4 := (h1).2.2 4 _ rfl
    have f5 := (h1).2.2 5 _ rfl
    have f6 := (h1).2.2 6 _ rfl
    have f7 := (h1).2.2 7 _ rfl
    have f8 := (h1).2.2 8 _ rfl
    have ff := (h1).2.1
    have fg := (h1).1
    clear h1
    go_wp2_with fail
    refine (word26 (WR.of HW.out HE_Y.out) HI.out.1 (Nat.le_trans HJn.out (Nat.le_trans HQ2.out (by decide)))).mono ?_
    rintro e w2 ⟨rfl, he⟩
    have HE_2 := hid (Ext.trans HE_Y.out he)
    have hY2 := hid he
    have h2_ := HB.out.of HE_2.out
    have e_ := HB_b13.out.of he
    clear he f0 f1 f2 f3 f4 f5 f6 f7 f8 ff fg e0 e1 e2 ef eg
    have f0 := (h2_).2.2 0 _ rfl
    have f1 := (h2_).2.2 1 _ rfl
    have f2 := (h2_).2.2 2 _ rfl
    have f3 := (h2_).2.2 3 _ rfl
    have f4 := (h2_).2.2 4 _ rfl
    have f5 := (h2_).2.2 5 _ rfl
    have f6 := (h2_).2.2 6 _ rfl
    have f7 := (h2_).2.2 7 _ rfl
    have f8 := (h2_).2.2 8 _ rfl
    have ff := (h2_).2.1
    have fg := (h2_).1
    have e0 := (e_).2.2 0 _ rfl
    have e1 := (e_).2.2 1 _ rfl
    have e2 := (e_).2.2 2 _ rfl
    have ef := (e_).2.1
    have eg := (e_).1
    clear h2_ e_
    go_wp2_with fail
    generalize hV_ : World.alloc _ _ = Z
    have HE_Z := hid (show Ext w2 Z by rw [← hV_]; (show Ext _ _; repeat first | (with_reducible first | (refine xH ?_; assumption) | exact xR _ | refine xX ?_ _ | refine xA ?_ _) | refine xD ?_ | refine xN ?_ _ | exact xR _))
    have HB_b15 := hid (show Blk Z (w2.heap.size) [.int .i64 cv, .int .u32 0, .int .u32 0] by rw [← hV_]; (show Blk _ _ _; repeat first | (with_reducible first | (refine xH ?_; assumption) | refine bD ?_ | refine bX ?_ _) | (with_reducible refine bN _ _ rfl ?_; first | with_reducible rfl | (simp; done)) | (with_reducible first | refine bA ?_ _ | assumption | apply bS) | (with_reducible refine bO ?_ ?_; first | omega | (simp; omega)) | (show List.set _ _ _ = _; exact rfl) | (show _ < List.length _; simp; done)))
    clear hV_
    obtain ⟨b15, hg_b15⟩ : ∃ g, g = w2.heap.size := ⟨_, rfl⟩
    simp only [← hg_b15] at HB_b15 ⊢
    have HN_Z := hid (show b15 = w2.heap.size ∧ b15 < Z.heap.size from ⟨hg_b15, HB_b15.out.1⟩)
    clear hg_b15
    have HE_3 := hid (HE_2.out.trans HE_Z.out)
    have hYZ := hid (hY2.out.trans HE_Z.out)
    have HB3 := hid (HB.out.of HE_3.out)
    have HWZ := hid (WR.of HW.out HE_3.out)
    have HCZ := hid (show X.heap.size ≤ Z.heap.size from Nat.le_trans HG.out.1.1 HE_3.out.size)
    have hwt := dv_ok HD.out HI.out.2.1 (Nat.le_trans HJn.out (Nat.le_trans HQ2.out (by decide)))
    have HP := hid (pick26f (bs := bs) HI.out.1 (Nat.le_trans HJn.out (Nat.le_trans HQ2.out (by decide))) HI.out.2.1 (by rw [HI.out.2.1.len, HI.out.2.2]; rfl) k1 k2 k3 hk1)
    clear f0 f1 f2 f3 f4 f5 f6 f7 f8 ff fg hk1 hk1d hjm2
    rcases HP.out with hno | ⟨h1k, i, hki, hil, hst⟩ | ⟨h1k, i, ts', tick, m', cv', k', hki, hil, htk, hkk, hst, hg', hi', ⟨rfl, st, tm, ai, g, rfl⟩ | ⟨rfl, rfl, ai, g, rfl⟩ | ⟨rfl, rfl, ai, g, rfl⟩⟩
    ·clear HP
     refine (hno Z _ _ ⟨_, _, _, _, _, _, _, _, _, _, _, _, _, _, _, _, _, _, _, _, _, rfl, HWZ.out⟩).mono ?_
     rintro e w3 ⟨rfl, hS⟩
     have HE_4 := hid (HE_3.out.trans hS)
     have HW4 := hid (HWZ.out.of hS)
     clear hno
     have HB8w := hid (HB3.out.of hS)
     have hSz := hS.size
     have e_ := (show Blk Y b13 [.int .i64 k1, .int .i64 k2, .int .i64 k3] from HB_b13.out).of (show Ext Y w3 from Ext.trans hYZ.out hS)
     have hB15 := (show Blk Z b15 [.int .i64 cv, .int .u32 0, .int .u32 0] from HB_b15.out).of hS
     have HB15w := hid hB15
     have HB13w := hid e_
     clear hS hB15 e_ e0 e1 e2 ef eg
     go_upto_region 14 with fail
     generalize hV_ : World.alloc _ _ = U
     have HE_U := hid (show Ext w3 U by rw [← hV_]; (show Ext _ _; repeat first | (with_reducible first | (refine xH ?_; assumption) | exact xR _ | refine xX ?_ _ | refine xA ?_ _) | refine xD ?_ | refine xN ?_ _ | exact xR _))
     have HB_b16 := hid (show Blk U (w3.heap.size) [.slice pa1 pn1 pc1, .slice va1 vn1 vc1, .slice fa1 fn1 fc1, .slice la1 ln1 lc1, .map none, .slice sa1 sn1 sc1, .int .i64 0, .slice ta1 tn1 tc1, .slice ba1 bn1 bc1] by rw [← hV_]; (show Blk _ _ _; repeat first | (with_reducible first | (refine xH ?_; assumption) | refine bD ?_ | refine bX ?_ _) | (with_reducible refine bN _ _ rfl ?_; first | with_reducible rfl | (simp; done)) | (with_reducible first | refine bA ?_ _ | assumption | apply bS) | (with_reducible refine bO ?_ ?_; first | omega | (simp; omega)) | (show List.set _ _ _ = _; exact rfl) | (show _ < List.length _; simp; done)))
     clear hV_
     obtain ⟨b16, hg_b16⟩ : ∃ g, g = w3.heap.size := ⟨_, rfl⟩
     simp only [← hg_b16] at HB_b16 ⊢
     have HN_U := hid (show b16 = w3.heap.size ∧ b16 < U.heap.size from ⟨hg_b16, HB_b16.out.1⟩)
     clear hg_b16
     have HEU := hid (HE_4.out.trans HE_U.out)
     have HC16 := hid (show mb ≠ b16 by
      have h1 := HNX.out.2.2.2
      have h2 := HCZ.out
      have h3 := hSz
      have h4 := HN_U.out.1
      omega)
     have HB8 := hid (HB8w.out.of HE_U.out)
     have HB16 := HB_b16
     have HB7 := hid (HB7r.out.of HEU.out)
     have HWT := hid (HW4.out.of HE_U.out)
     have HXT := hid (And.intro (HG.out.1.of HEU.out) (HG.out.2.trans HEU.out))
     have HMT := hid (show (Met26 U mb n f ∧ n ≤ j + 1) ∧ ∀ x, f x = decide (time + 1 ≤ x ∧ x ≤ cv) from ⟨⟨Met26.of HMt.out.1.1 HEU.out, Nat.le_succ_of_le HMt.out.1.2⟩, HMt.out.2⟩)
     have HB13 := hid (HB13w.out.of HE_U.out)
     have HB15 := hid (HB15w.out.of HE_U.out)
     clear hSz HB8w HB13w HB15w HB_b16 HE_4 HW4
     have e0 := (HB13.out).2.2 0 _ rfl
     have e1 := (HB13.out).2.2 1 _ rfl
     have e2 := (HB13.out).2.2 2 _ rfl
     have ef := (HB13.out).2.1
     have eg := (HB13.out).1
     clear e0 e1 e2 ef eg
     have HIq := hid (show G26 m (cv, 0, 0) jq ∧ Inv time cv [sa0, sb0, sc0] ts jq ∧ bs.length = 3 by rw [HJq.out]; exact ⟨HI.out.1.up, HI.out.2.1.up, HI.out.2.2⟩)
     have HDq := HD
     have h8_ := HB8.out
     have f0 := (h8_).2.2 0 _ rfl
     have f1 := (h8_).2.2 1 _ rfl
     have f2 := (h8_).2.2 2 _ rfl
     have f3 := (h8_).2.2 3 _ rfl
     have f4 := (h8_).2.2 4 _ rfl
     have f5 := (h8_).2.2 5 _ rfl
     have f6 := (h8_).2.2 6 _ rfl
     have f7 := (h8_).2.2 7 _ rfl
     have f8 := (h8_).2.2 8 _ rfl
     have ff := (h8_).2.1
     have fg := (h8_).1
     clear h8_
     have g0 := (HB16.out).2.2 0 _ rfl
     have g1 := (HB16.out).2.2 1 _ rfl
     have g2 := (HB16.out).2.2 2 _ rfl
     have g3 := (HB16.out).2.2 3 _ rfl
     have g4 := (HB16.out).2.2 4 _ rfl
     have g5 := (HB16.out).2.2 5 _ rfl
     have g6 := (HB16.out).2.2 6 _ rfl
     have g7 := (HB16.out).2.2 7 _ rfl
     have g8 := (HB16.out).2.2 8 _ rfl
     have gf := (HB16.out).2.1
     have gg := (HB16.out).1
     go_wp2_with fail
     generalize hZ_ : World.setCell _ _ _ = Z2
     have HGZ := hid (show GrL [b8] U Z2 by rw [← hZ_]; (show GrL _ _ _; repeat (first | with_reducible exact GrL.refl | ((with_reducible refine GrL.set ?_ ?_ _); rotate_left 1; focus (simp; done)) | ((with_reducible refine GrL.ext ?_ _)) | ((with_reducible refine GrL.alloc ?_ _)) | ((with_reducible refine GrL.drew ?_)))))
     have HBZ := hid (show Blk Z2 b8 [.slice pa1 pn1 pc1, .slice va1 vn1 vc1, .slice fa1 fn1 fc1, .slice la1 ln1 lc1, .map none, .slice sa1 sn1 sc1, .int .i64 0, .slice ta1 tn1 tc1, .slice ba1 bn1 bc1] by rw [← hZ_]; have h3 := HB8.out; (show Blk _ _ _; (with_reducible apply Blk.cast); (repeat first | (with_reducible first | (refine xH ?_; assumption) | assumption | apply bD | apply bX | apply bA | apply Blk.set) | ((with_reducible apply bO); first | omega | (simp; omega))); all_goals (first | rfl | (simp; done))))
     clear hZ_ f0 f1 f2 f3 f4 f5 f6 f7 f8 ff fg g0 g1 g2 g3 g4 g5 g6 g7 g8 gf gg
     have HWZ2 := hid (wv_lit (wv_back (q := none) (cr := 0) (wv_of HWT.out) HGZ.out HNB.out.1 HNB.out.2.1))
     refine (word26 HWZ2.out HIq.out.1 (Nat.le_trans (le_next HJm.out HJq.out) (Nat.le_trans HQ2.out (by decide)))).mono ?_
     rintro e w9 ⟨rfl, he⟩
     have HE9 := hid he
     clear he
     go_wp2_with fail
     generalize hY_ : World.alloc _ _ = Y2
     have hE := HE9.out.trans (show Ext w9 Y2 by rw [← hY_]; (show Ext _ _; repeat first | (with_reducible first | (refine xH ?_; assumption) | exact xR _ | refine xX ?_ _ | refine xA ?_ _) | refine xD ?_ | refine xN ?_ _ | exact xR _))
     clear hY_
     go_roundw
     case rel =>
      exact ⟨jq, le_next HJm.out HJq.out, by first | exact slot_next' hwq | exact slot_next HJq.out | (rw [hwq]), _, _, _, _, _, _, _, _, _, _, _, _, _, _, _, _, _, _, _, _, _, _, _, _, _, n, f, dv, rfl, HDq, hid (HBZ.out.of hE), hid ((HB7.out.grl HGZ.out (by simp; exact HNB.out.2.2.1)).of hE), hid (HWZ2.out.of hE), hid ⟨(HXT.out.1.grl HGZ.out).of hE, (HXT.out.2.grl HGZ.out (by simp; exact HNB.out.2.2.2.2.1)).trans hE⟩, hid ⟨⟨(Met26.grl HMT.out.1.1 HGZ.out HNB.out.2.2.2.2.2).of hE, by rw [HJq.out]; exact HMT.out.1.2⟩, HMT.out.2⟩, HIq⟩
     case measure => first | exact meas_next2 HJm.out HJq.out | exact meas_next3 hwq HJm.out HJq.out | exact meas_next HJm.out HJq.out
    ·clear HP
     subst h1k
     refine (hst Z (fun b => ((w.heap.size ≤ b ∧ b < w1.heap.size) ∨ X.heap.size ≤ b) ∧ b < Z.heap.size) _ (fun b h => h.2) (wv_of HWZ.out.bnd)).mono ?_
     rintro e w3 ⟨v', rfl, hS, hv⟩
     have hv := wv_fold hv HCZ.out
     obtain ⟨pa2, va2, fa2, la2, sa2, ta2, ba2, pn2, pc2, vn2, vc2, fn2, fc2, ln2, lc2, sn2, sc2, tn2, tc2, bn2, bc2, rfl, hw⟩ := hv
     have HE_4 := hid (HE_3.out.trans hS)
     have HW4 := hid hw
     clear hst hw
     have HB8w := hid (HB3.out.of hS)
     have hSz := hS.size
     have e_ := (show Blk Y b13 [.int .i64 1, .int .i64 k2, .int .i64 k3] from HB_b13.out).of (show Ext Y w3 from Ext.trans hYZ.out hS)
     have hB15 := (show Blk Z b15 [.int .i64 cv, .int .u32 0, .int .u32 0] from HB_b15.out).of hS
     have HB15w := hid hB15
     have HB13w := hid e_
     clear hS hB15 e_ e0 e1 e2 ef eg
     go_upto_region 14 with fail
     generalize hV_ : World.alloc _ _ = U
     have HE_U := hid (show Ext w3 U by rw [← hV_]; (show Ext _ _; repeat first | (with_reducible first | (refine xH ?_; assumption) | exact xR _ | refine xX ?_ _ | refine xA ?_ _) | refine xD ?_ | refine xN ?_ _ | exact xR _))
     have HB_b16 := hid (show Blk U (w3.heap.size) [.slice pa2 pn2 pc2, .slice va2 vn2 vc2, .slice fa2 fn2 fc2, .slice la2 ln2 lc2, .map none, .slice sa2 sn2 sc2, .int .i64 0, .slice ta2 tn2 tc2, .slice ba2 bn2 bc2] by rw [← hV_]; (show Blk _ _ _; repeat first | (with_reducible first | (refine xH ?_; assumption) | refine bD ?_ | refine bX ?_ _) | (with_reducible refine bN _ _ rfl ?_; first | with_reducible rfl | (simp; done)) | (with_reducible first | refine bA ?_ _ | assumption | apply bS) | (with_reducible refine bO ?_ ?_; first | omega | (simp; omega)) | (show List.set _ _ _ = _; exact rfl) | (show _ < List.length _; simp; done)))
     clear hV_
     obtain ⟨b16, hg_b16⟩ : ∃ g, g = w3.heap.size := ⟨_, rfl⟩
     simp only [← hg_b16] at HB_b16 ⊢
     have HN_U := hid (show b16 = w3.heap.size ∧ b16 < U.heap.size from ⟨hg_b16, HB_b16.out.1⟩)
     clear hg_b16
     have HEU := hid (HE_4.out.trans HE_U.out)
     have HC16 := hid (show mb ≠ b16 by
      have h1 := HNX.out.2.2.2
      have h2 := HCZ.out
      have h3 := hSz
      have h4 := HN_U.out.1
      omega)
     have HB8 := hid (HB8w.out.of HE_U.out)
     have HB16 := HB_b16
     have HB7 := hid (HB7r.out.of HEU.out)
     have HWT := hid (HW4.out.of HE_U.out)
     have HXT := hid (And.intro (HG.out.1.of HEU.out) (HG.out.2.trans HEU.out))
     have HMT := hid (show (Met26 U mb n f ∧ n ≤ j + 1) ∧ ∀ x, f x = decide (time + 1 ≤ x ∧ x ≤ cv) from ⟨⟨Met26.of HMt.out.1.1 HEU.out, Nat.le_succ_of_le HMt.out.1.2⟩, HMt.out.2⟩)
     have HB13 := hid (HB13w.out.of HE_U.out)
     have HB15 := hid (HB15w.out.of HE_U.out)
     clear hSz HB8w HB13w HB15w HB_b16 HE_4 HW4
     have e0 := (HB13.out).2.2 0 _ rfl
     have e1 := (HB13.out).2.2 1 _ rfl
     have e2 := (HB13.out).2.2 2 _ rfl
     have ef := (HB13.out).2.1
     have eg := (HB13.out).1
     have HIq := hid (show G26 m (cv, 0, 0) jq ∧ Inv time cv [sa0, sb0, sc0] ts jq ∧ (bs.set i true).length = 3 by rw [HJq.out, List.length_set]; exact ⟨HI.out.1.up, HI.out.2.1.up, HI.out.2.2⟩)
     have HDq := HD
     clear hki
     have h8_ := HB8.out
     have f0 := (h8_).2.2 0 _ rfl
     have f1 := (h8_).2.2 1 _ rfl
     have f2 := (h8_).2.2 2 _ rfl
     have f3 := (h8_).2.2 3 _ rfl
     have f4 := (h8_).2.2 4 _ rfl
     have f5 := (h8_).2.2 5 _ rfl
     have f6 := (h8_).2.2 6 _ rfl
     have f7 := (h8_).2.2 7 _ rfl
     have f8 := (h8_).2.2 8 _ rfl
     have ff := (h8_).2.1
     have fg := (h8_).1
     clear h8_
     have g0 := (HB16.out).2.2 0 _ rfl
     have g1 := (HB16.out).2.2 1 _ rfl
     have g2 := (HB16.out).2.2 2 _ rfl
     have g3 := (HB16.out).2.2 3 _ rfl
     have g4 := (HB16.out).2.2 4 _ rfl
     have g5 := (HB16.out).2.2 5 _ rfl
     have g6 := (HB16.out).2.2 6 _ rfl
     have g7 := (HB16.out).2.2 7 _ rfl
     have g8 := (HB16.out).2.2 8 _ rfl
     have gf := (HB16.out).2.1
     have gg := (HB16.out).1
     go_wp2_with fail
     generalize hZ_ : World.setCell _ _ _ = Z2
     have HGZ := hid (show GrL [b8] U Z2 by rw [← hZ_]; (show GrL _ _ _; repeat (first | with_reducible exact GrL.refl | ((with_reducible refine GrL.set ?_ ?_ _); rotate_left 1; focus (simp; done)) | ((with_reducible refine GrL.ext ?_ _)) | ((with_reducible refine GrL.alloc ?_ _)) | ((with_reducible refine GrL.drew ?_)))))
     have HBZ := hid (show Blk Z2 b8 [.slice pa2 pn2 pc2, .slice va2 vn2 vc2, .slice fa2 fn2 fc2, .slice la2 ln2 lc2, .map none, .slice sa2 sn2 sc2, .int .i64 0, .slice ta2 tn2 tc2, .slice ba2 bn2 bc2] by rw [← hZ_]; have h3 := HB8.out; (show Blk _ _ _; (with_reducible apply Blk.cast); (repeat first | (with_reducible first | (refine xH ?_; assumption) | assumption | apply bD | apply bX | apply bA | apply Blk.set) | ((with_reducible apply bO); first | omega | (simp; omega))); all_goals (first | rfl | (simp; done))))
     clear hZ_ f0 f1 f2 f3 f4 f5 f6 f7 f8 ff fg g0 g1 g2 g3 g4 g5 g6 g7 g8 gf gg
     have HWZ2 := hid (wv_lit (wv_back (q := none) (cr := 0) (wv_of HWT.out) HGZ.out HNB.out.1 HNB.out.2.1))
     refine (word26 HWZ2.out HIq.out.1 (Nat.le_trans (le_next HJm.out HJq.out) (Nat.le_trans HQ2.out (by decide)))).mono ?_
     rintro e w9 ⟨rfl, he⟩
     have HE9 := hid he
     clear he
     go_wp2_with fail
     generalize hY_ : World.alloc _ _ = Y2
     have hE := HE9.out.trans (show Ext w9 Y2 by rw [← hY_]; (show Ext _ _; repeat first | (with_reducible first | (refine xH ?_; assumption) | exact xR _ | refine xX ?_ _ | refine xA ?_ _) | refine xD ?_ | refine xN ?_ _ | exact xR _))
     clear hY_
     go_roundw
     case rel =>
      exact ⟨jq, le_next HJm.out HJq.out, by first | exact slot_next' hwq | exact slot_next HJq.out | (rw [hwq]), _, _, _, _, _, _, _, _, _, _, _, _, _, _, _, _, _, _, _, _, _, _, _, _, _, n, f, dv, rfl, HDq, hid (HBZ.out.of hE), hid ((HB7.out.grl HGZ.out (by simp; exact HNB.out.2.2.1)).of hE), hid (HWZ2.out.of hE), hid ⟨(HXT.out.1.grl HGZ.out).of hE, (HXT.out.2.grl HGZ.out (by simp; exact HNB.out.2.2.2.2.1)).trans hE⟩, hid ⟨⟨(Met26.grl HMT.out.1.1 HGZ.out HNB.out.2.2.2.2.2).of hE, by rw [HJq.out]; exact HMT.out.1.2⟩, HMT.out.2⟩, HIq⟩
     case measure => first | exact meas_next2 HJm.out HJq.out | exact meas_next3 hwq HJm.out HJq.out | exact meas_next HJm.out HJq.out
    ·clear HP
     have HIq := hid (show G26 m' (cv, 0, 0) jq ∧ Inv time (cv) [sa0, sb0, sc0] ts' jq ∧ bs.length = 3 by rw [HJq.out]; exact ⟨hg', hi', HI.out.2.2⟩)
     clear hg' hi'
     subst h1k
     refine (hst Z (fun b => ((w.heap.size ≤ b ∧ b < w1.heap.size) ∨ X.heap.size ≤ b) ∧ b < Z.heap.size) _ (fun b h => h.2) (wv_of HWZ.out.bnd)).mono ?_
     rintro e w3 ⟨v', rfl, hS, hv⟩
     have hv := wv_fold hv HCZ.out
     obtain ⟨pa2, va2, fa2, la2, sa2, ta2, ba2, pn2, pc2, vn2, vc2, fn2, fc2, ln2, lc2, sn2, sc2, tn2, tc2, bn2, bc2, rfl, hw⟩ := hv
     have HE_4 := hid (HE_3.out.trans hS)
     have HW4 := hid hw
     clear hst hw
     obtain ⟨tb, to_, p1, p2, p3, p4, p5, p6, p7, p8, ga, gc, hta, hx⟩ := task_under HW4.out.2.1 hkk rfl
     obtain ⟨gn, hgn⟩ : ∃ n, n = g.length := ⟨_, rfl⟩
     rw [← hgn] at hx
     have HX := hid hx
     subst hta
     obtain rfl : tn2 = 3 := tn_three HW4.out.2.1 HIq.out.2.1
     clear hx hgn hkk
     have HB8w := hid (HB3.out.of hS)
     have hSz := hS.size
     have e_ := (show Blk Y b13 [.int .i64 0, .int .i64 k2, .int .i64 k3] from HB_b13.out).of (show Ext Y w3 from Ext.trans hYZ.out hS)
     have hB15 := (show Blk Z b15 [.int .i64 cv, .int .u32 0, .int .u32 0] from HB_b15.out).of hS
     have HB15w := hid hB15
     have HB13w := hid e_
     clear hS hB15 e_ e0 e1 e2 ef eg
     go_upto_region 14 with fail
     generalize hV_ : World.alloc _ _ = U
     have HE_U := hid (show Ext w3 U by rw [← hV_]; (show Ext _ _; repeat first | (with_reducible first | (refine xH ?_; assumption) | exact xR _ | refine xX ?_ _ | refine xA ?_ _) | refine xD ?_ | refine xN ?_ _ | exact xR _))
     have HB_b16 := hid (show Blk U (w3.heap.size) [.slice pa2 pn2 pc2, .slice va2 vn2 vc2, .slice fa2 fn2 fc2, .slice la2 ln2 lc2, .map none, .slice sa2 sn2 sc2, .int .i64 0, .slice (some ⟨tb, to_, none⟩) 3 tc2, .slice ba2 bn2 bc2] by rw [← hV_]; (show Blk _ _ _; repeat first | (with_reducible first | (refine xH ?_; assumption) | refine bD ?_ | refine bX ?_ _) | (with_reducible refine bN _ _ rfl ?_; first | with_reducible rfl | (simp; done)) | (with_reducible first | refine bA ?_ _ | assumption | apply bS) | (with_reducible refine bO ?_ ?_; first | omega | (simp; omega)) | (show List.set _ _ _ = _; exact rfl) | (show _ < List.length _; simp; done)))
     clear hV_
     obtain ⟨b16, hg_b16⟩ : ∃ g, g = w3.heap.size := ⟨_, rfl⟩
     simp only [← hg_b16] at HB_b16 ⊢
     have HN_U := hid (show b16 = w3.heap.size ∧ b16 < U.heap.size from ⟨hg_b16, HB_b16.out.1⟩)
     clear hg_b16
     have HEU := hid (HE_4.out.trans HE_U.out)
     have HC16 := hid (show mb ≠ b16 by
      have h1 := HNX.out.2.2.2
      have h2 := HCZ.out
      have h3 := hSz
      have h4 := HN_U.out.1
      omega)
     have HB8 := hid (HB8w.out.of HE_U.out)
     have HB16 := HB_b16
     have HB7 := hid (HB7r.out.of HEU.out)
     have HWT := hid (HW4.out.of HE_U.out)
     have HXT := hid (And.intro (HG.out.1.of HEU.out) (HG.out.2.trans HEU.out))
     have HMT := hid (show (Met26 U mb n f ∧ n ≤ j + 1) ∧ ∀ x, f x = decide (time + 1 ≤ x ∧ x ≤ cv) from ⟨⟨Met26.of HMt.out.1.1 HEU.out, Nat.le_succ_of_le HMt.out.1.2⟩, HMt.out.2⟩)
     have HB13 := hid (HB13w.out.of HE_U.out)
     have HB15 := hid (HB15w.out.of HE_U.out)
     clear hSz HB8w HB13w HB15w HB_b16 HE_4 HW4
     have e0 := (HB13.out).2.2 0 _ rfl
     have e1 := (HB13.out).2.2 1 _ rfl
     have e2 := (HB13.out).2.2 2 _ rfl
     have ef := (HB13.out).2.1
     have eg := (HB13.out).1
     obtain ⟨hpw, hpi, hi3, hpd, hpe⟩ := pick_int hki hil
     obtain ⟨htb, x0, x1, x2, x3, x4, x5, x6, x7, x8, x9, x10⟩ := (HX.out.of HE_U.out).open
     have g0 := (HB16.out).2.2 0 _ rfl
     have g1 := (HB16.out).2.2 1 _ rfl
     have g2 := (HB16.out).2.2 2 _ rfl
     have g3 := (HB16.out).2.2 3 _ rfl
     have g4 := (HB16.out).2.2 4 _ rfl
     have g5 := (HB16.out).2.2 5 _ rfl
     have g6 := (HB16.out).2.2 6 _ rfl
     have g7 := (HB16.out).2.2 7 _ rfl
     have g8 := (HB16.out).2.2 8 _ rfl
     have gf := (HB16.out).2.1
     have gg := (HB16.out).1
     clear hki hil
     go_wp2_with fail
     refine (tdone_any (.iface ckT (.agg #[.int .i64 0, .bool tick, .int .i64 st, .int .i64 tm])) (.func (.method "Next") #[.iface ckT (.agg #[.int .i64 0, .bool tick, .int .i64 st, .int .i64 tm])] #[]) false (.inr ⟨rfl, _, _, _, rfl⟩) ⟨p1, p2, (p3, p4, p5), (p6, p7, p8)⟩ ga gn gc _).mono ?_
     rintro e w5 ⟨rfl, r5, hr5⟩
     have HE5 := hid (show Ext U w5 from ⟨r5, hr5⟩)
     clear hr5 x0 x1 x2 x3 x4 x5 x6 x7 x8 x9 x10 htb g0 g1 g2 g3 g4 g5 g6 g7 g8 gf gg e0 e1 e2 ef eg
     have HB8_ := hid (HB8.out.of HE5.out)
     have HB16_ := hid (HB16.out.of HE5.out)
     have HB7_ := hid (HB7.out.of HE5.out)
     have HWT_ := hid (HWT.out.of HE5.out)
     have HXT_ := hid (And.intro (HXT.out.1.of HE5.out) (HXT.out.2.trans HE5.out))
     have HMT_ := hid (And.intro (And.intro (Met26.of HMT.out.1.1 HE5.out) HMT.out.1.2) HMT.out.2)
     clear HB8 HB16 HB7 HWT HXT HMT
     have HB8 := HB8_
     have HB16 := HB16_
     have HB7 := HB7_
     have HWT := HWT_
     have HXT := HXT_
     have HMT := HMT_
     clear HB8_ HB16_ HB7_ HWT_ HXT_ HMT_
     have HDq := HD
     have h8_ := HB8.out
     have f0 := (h8_).2.2 0 _ rfl
     have f1 := (h8_).2.2 1 _ rfl
     have f2 := (h8_).2.2 2 _ rfl
     have f3 := (h8_).2.2 3 _ rfl
     have f4 := (h8_).2.2 4 _ rfl
     have f5 := (h8_).2.2 5 _ rfl
     have f6 := (h8_).2.2 6 _ rfl
     have f7 := (h8_).2.2 7 _ rfl
     have f8 := (h8_).2.2 8 _ rfl
     have ff := (h8_).2.1
     have fg := (h8_).1
     clear h8_
     have g0 := (HB16.out).2.2 0 _ rfl
     have g1 := (HB16.out).2.2 1 _ rfl
     have g2 := (HB16.out).2.2 2 _ rfl
     have g3 := (HB16.out).2.2 3 _ rfl
     have g4 := (HB16.out).2.2 4 _ rfl
     have g5 := (HB16.out).2.2 5 _ rfl
     have g6 := (HB16.out).2.2 6 _ rfl
     have g7 := (HB16.out).2.2 7 _ rfl
     have g8 := (HB16.out).2.2 8 _ rfl
     have gf := (HB16.out).2.1
     have gg := (HB16.out).1
     go_wp2_with fail
     generalize hZ_ : World.setCell _ _ _ = Z2
     have HGZ := hid (show GrL [b8] w5 Z2 by rw [← hZ_]; (show GrL _ _ _; repeat (first | with_reducible exact GrL.refl | ((with_reducible refine GrL.set ?_ ?_ _); rotate_left 1; focus (simp; done)) | ((with_reducible refine GrL.ext ?_ _)) | ((with_reducible refine GrL.alloc ?_ _)) | ((with_reducible refine GrL.drew ?_)))))
     have HBZ := hid (show Blk Z2 b8 [.slice pa2 pn2 pc2, .slice va2 vn2 vc2, .slice fa2 fn2 fc2, .slice la2 ln2 lc2, .map none, .slice sa2 sn2 sc2, .int .i64 0, .slice (some ⟨tb, to_, none⟩) 3 tc2, .slice ba2 bn2 bc2] by rw [← hZ_]; have h3 := HB8.out; (show Blk _ _ _; (with_reducible apply Blk.cast); (repeat first | (with_reducible first | (refine xH ?_; assumption) | assumption | apply bD | apply bX | apply bA | apply Blk.set) | ((with_reducible apply bO); first | omega | (simp; omega))); all_goals (first | rfl | (simp; done))))
     clear hZ_ f0 f1 f2 f3 f4 f5 f6 f7 f8 ff fg g0 g1 g2 g3 g4 g5 g6 g7 g8 gf gg
     have HWZ2 := hid (wv_lit (wv_back (q := none) (cr := 0) (wv_of HWT.out) HGZ.out HNB.out.1 HNB.out.2.1))
     refine (word26 HWZ2.out HIq.out.1 (Nat.le_trans (le_next HJm.out HJq.out) (Nat.le_trans HQ2.out (by decide)))).mono ?_
     rintro e w9 ⟨rfl, he⟩
     have HE9 := hid he
     clear he
     go_wp2_with fail
     generalize hY_ : World.alloc _ _ = Y2
     have hE := HE9.out.trans (show Ext w9 Y2 by rw [← hY_]; (show Ext _ _; repeat first | (with_reducible first | (refine xH ?_; assumption) | exact xR _ | refine xX ?_ _ | refine xA ?_ _) | refine xD ?_ | refine xN ?_ _ | exact xR _))
     clear hY_
     go_roundw
     case rel =>
      exact ⟨jq, le_next HJm.out HJq.out, by first | exact slot_next' hwq | exact slot_next HJq.out | (rw [hwq]), _, _, _, _, _, _, _, _, _, _, _, _, _, _, _, _, _, _, _, _, _, _, _, _, _, n, f, dv, rfl, HDq, hid (HBZ.out.of hE), hid ((HB7.out.grl HGZ.out (by simp; exact HNB.out.2.2.1)).of hE), hid (HWZ2.out.of hE), hid ⟨(HXT.out.1.grl HGZ.out).of hE, (HXT.out.2.grl HGZ.out (by simp; exact HNB.out.2.2.2.2.1)).trans hE⟩, hid ⟨⟨(Met26.grl HMT.out.1.1 HGZ.out HNB.out.2.2.2.2.2).of hE, by rw [HJq.out]; exact HMT.out.1.2⟩, HMT.out.2⟩, HIq⟩
     case measure => first | exact meas_next2 HJm.out HJq.out | exact meas_next3 hwq HJm.out HJq.out | exact meas_next HJm.out HJq.out
    ·clear HP
     have HIq := hid (show G26 m' (cv, 0, 0) jq ∧ Inv time (cv) [sa0, sb0, sc0] ts' jq ∧ bs.length = 3 by rw [HJq.out]; exact ⟨hg', hi', HI.out.2.2⟩)
     clear hg' hi'
     subst h1k
     refine (hst Z (fun b => ((w.heap.size ≤ b ∧ b < w1.heap.size) ∨ X.heap.size ≤ b) ∧ b < Z.heap.size) _ (fun b h => h.2) (wv_of HWZ.out.bnd)).mono ?_
     rintro e w3 ⟨v', rfl, hS, hv⟩
     have hv := wv_fold hv HCZ.out
     obtain ⟨pa2, va2, fa2, la2, sa2, ta2, ba2, pn2, pc2, vn2, vc2, fn2, fc2, ln2, lc2, sn2, sc2, tn2, tc2, bn2, bc2, rfl, hw⟩ := hv
     have HE_4 := hid (HE_3.out.trans hS)
     have HW4 := hid hw
     clear hst hw
     obtain ⟨tb, to_, ga, gc, hta, hx⟩ := task_over HW4.out.2.1 hkk rfl
     obtain ⟨gn, hgn⟩ : ∃ n, n = g.length := ⟨_, rfl⟩
     rw [← hgn] at hx
     have HX := hid hx
     subst hta
     obtain rfl : tn2 = 3 := tn_three HW4.out.2.1 HIq.out.2.1
     clear hx hgn hkk
     have HB8w := hid (HB3.out.of hS)
     have hSz := hS.size
     have e_ := (show Blk Y b13 [.int .i64 0, .int .i64 k2, .int .i64 k3] from HB_b13.out).of (show Ext Y w3 from Ext.trans hYZ.out hS)
     have hB15 := (show Blk Z b15 [.int .i64 cv, .int .u32 0, .int .u32 0] from HB_b15.out).of hS
     have HB15w := hid hB15
     have HB13w := hid e_
     clear hS hB15 e_ e0 e1 e2 ef eg
     go_upto_region 14 with fail
     generalize hV_ : World.alloc _ _ = U
     have HE_U := hid (show Ext w3 U by rw [← hV_]; (show Ext _ _; repeat first | (with_reducible first | (refine xH ?_; assumption) | exact xR _ | refine xX ?_ _ | refine xA ?_ _) | refine xD ?_ | refine xN ?_ _ | exact xR _))
     have HB_b16 := hid (show Blk U (w3.heap.size) [.slice pa2 pn2 pc2, .slice va2 vn2 vc2, .slice fa2 fn2 fc2, .slice la2 ln2 lc2, .map none, .slice sa2 sn2 sc2, .int .i64 0, .slice (some ⟨tb, to_, none⟩) 3 tc2, .slice ba2 bn2 bc2] by rw [← hV_]; (show Blk _ _ _; repeat first | (with_reducible first | (refine xH ?_; assumption) | refine bD ?_ | refine bX ?_ _) | (with_reducible refine bN _ _ rfl ?_; first | with_reducible rfl | (simp; done)) | (with_reducible first | refine bA ?_ _ | assumption | apply bS) | (with_reducible refine bO ?_ ?_; first | omega | (simp; omega)) | (show List.set _ _ _ = _; exact rfl) | (show _ < List.length _; simp; done)))
     clear hV_
     obtain ⟨b16, hg_b16⟩ : ∃ g, g = w3.heap.size := ⟨_, rfl⟩
     simp only [← hg_b16] at HB_b16 ⊢
     have HN_U := hid (show b16 = w3.heap.size ∧ b16 < U.heap.size from ⟨hg_b16, HB_b16.out.1⟩)
     clear hg_b16
     have HEU := hid (HE_4.out.trans HE_U.out)
     have HC16 := hid (show mb ≠ b16 by
      have h1 := HNX.out.2.2.2
      have h2 := HCZ.out
      have h3 := hSz
      have h4 := HN_U.out.1
      omega)
     have HB8 := hid (HB8w.out.of HE_U.out)
     have HB16 := HB_b16
     have HB7 := hid (HB7r.out.of HEU.out)
     have HWT := hid (HW4.out.of HE_U.out)
     have HXT := hid (And.intro (HG.out.1.of HEU.out) (HG.out.2.trans HEU.out))
     have HMT := hid (show (Met26 U mb n f ∧ n ≤ j + 1) ∧ ∀ x, f x = decide (time + 1 ≤ x ∧ x ≤ cv) from ⟨⟨Met26.of HMt.out.1.1 HEU.out, Nat.le_succ_of_le HMt.out.1.2⟩, HMt.out.2⟩)
     have HB13 := hid (HB13w.out.of HE_U.out)
     have HB15 := hid (HB15w.out.of HE_U.out)
     clear hSz HB8w HB13w HB15w HB_b16 HE_4 HW4
     have e0 := (HB13.out).2.2 0 _ rfl
     have e1 := (HB13.out).2.2 1 _ rfl
     have e2 := (HB13.out).2.2 2 _ rfl
     have ef := (HB13.out).2.1
     have eg := (HB13.out).1
     obtain ⟨hpw, hpi, hi3, hpd, hpe⟩ := pick_int hki hil
     have HTS := hid htk
     clear hki hil htk
     obtain ⟨htb, x0, x1, x2, x3, x4, x5, x6, x7, x8, x9, x10⟩ := (HX.out.of HE_U.out).open
     have g0 := (HB16.out).2.2 0 _ rfl
     have g1 := (HB16.out).2.2 1 _ rfl
     have g2 := (HB16.out).2.2 2 _ rfl
     have g3 := (HB16.out).2.2 3 _ rfl
     have g4 := (HB16.out).2.2 4 _ rfl
     have g5 := (HB16.out).2.2 5 _ rfl
     have g6 := (HB16.out).2.2 6 _ rfl
     have g7 := (HB16.out).2.2 7 _ rfl
     have g8 := (HB16.out).2.2 8 _ rfl
     have gf := (HB16.out).2.1
     have gg := (HB16.out).1
     go_wp2_with fail
     refine (tdone_any (.iface ckT (.agg #[.int .i64 0, .bool false, .int .i64 3, .int .i64 (cv)])) .nilFunc true (.inl ⟨rfl, rfl⟩) ⟨0, 0, (0, 0, 0), (0, 0, 0)⟩ ga gn gc _).mono ?_
     rintro e w5 ⟨rfl, r5, hr5⟩
     have HE5 := hid (show Ext U w5 from ⟨r5, hr5⟩)
     clear hr5 x0 x1 x2 x3 x4 x5 x6 x7 x8 x9 x10 htb g0 g1 g2 g3 g4 g5 g6 g7 g8 gf gg e0 e1 e2 ef eg
     obtain ⟨htb, x0, x1, x2, x3, x4, x5, x6, x7, x8, x9, x10⟩ := (HX.out.of (HE_U.out.trans HE5.out)).open
     have g_ := HB16.out.of HE5.out
     have g0 := (g_).2.2 0 _ rfl
     have g1 := (g_).2.2 1 _ rfl
     have g2 := (g_).2.2 2 _ rfl
     have g3 := (g_).2.2 3 _ rfl
     have g4 := (g_).2.2 4 _ rfl
     have g5 := (g_).2.2 5 _ rfl
     have g6 := (g_).2.2 6 _ rfl
     have g7 := (g_).2.2 7 _ rfl
     have g8 := (g_).2.2 8 _ rfl
     have gf := (g_).2.1
     have gg := (g_).1
     have e_ := HB13.out.of HE5.out
     have e0 := (e_).2.2 0 _ rfl
     have e1 := (e_).2.2 1 _ rfl
     have e2 := (e_).2.2 2 _ rfl
     have ef := (e_).2.1
     have eg := (e_).1
     clear g_ e_
     go_wp2_with fail
     refine (tcode_any (.iface ckT (.agg #[.int .i64 0, .bool false, .int .i64 3, .int .i64 (cv)])) .nilFunc ⟨0, 0, (0, 0, 0), (0, 0, 0)⟩ ga gn gc _).mono ?_
     rintro e w6 ⟨rfl, r6, hr6⟩
     have HE6 := hid (show Ext U w6 from HE5.out.trans ⟨r6, hr6⟩)
     clear hr6 x0 x1 x2 x3 x4 x5 x6 x7 x8 x9 x10 htb g0 g1 g2 g3 g4 g5 g6 g7 g8 gf gg e0 e1 e2 ef eg
     go_wp2_with fail
     refine (ctime_over 0 false (cv) _).mono ?_
     rintro e w7 ⟨rfl, r7, hr7⟩
     have HE7 := hid (show Ext U w7 from HE6.out.trans ⟨r7, hr7⟩)
     clear hr7
     have g_ := HB16.out.of HE7.out
     have g0 := (g_).2.2 0 _ rfl
     have g1 := (g_).2.2 1 _ rfl
     have g2 := (g_).2.2 2 _ rfl
     have g3 := (g_).2.2 3 _ rfl
     have g4 := (g_).2.2 4 _ rfl
     have g5 := (g_).2.2 5 _ rfl
     have g6 := (g_).2.2 6 _ rfl
     have g7 := (g_).2.2 7 _ rfl
     have g8 := (g_).2.2 8 _ rfl
     have gf := (g_).2.1
     have gg := (g_).1
     clear g_
     go_wp2_with fail
     refine (word26 (HWT.out.of HE7.out) HIq.out.1 (Nat.le_trans (le_next HJm.out HJq.out) (Nat.le_trans HQ2.out (by decide)))).mono ?_
     rintro e w8 ⟨rfl, he⟩
     have HE8 := hid (HE7.out.trans he)
     clear he g0 g1 g2 g3 g4 g5 g6 g7 g8 gf gg
     go_upto_region 17 with fail
     generalize hV_ : World.alloc _ _ = V
     have HE_V := hid (show Ext w8 V by rw [← hV_]; (show Ext _ _; repeat first | (with_reducible first | (refine xH ?_; assumption) | exact xR _ | refine xX ?_ _ | refine xA ?_ _) | refine xD ?_ | refine xN ?_ _ | exact xR _))
     have HB_b20 := hid (show Blk V (w8.heap.size) [.int .i64 (cv), .int .u32 0, .int .u32 0] by rw [← hV_]; (show Blk _ _ _; repeat first | (with_reducible first | (refine xH ?_; assumption) | refine bD ?_ | refine bX ?_ _) | (with_reducible refine bN _ _ rfl ?_; first | with_reducible rfl | (simp; done)) | (with_reducible first | refine bA ?_ _ | assumption | apply bS) | (with_reducible refine bO ?_ ?_; first | omega | (simp; omega)) | (show List.set _ _ _ = _; exact rfl) | (show _ < List.length _; simp; done)))
     clear hV_
     obtain ⟨b20, hg_b20⟩ : ∃ g, g = w8.heap.size := ⟨_, rfl⟩
     simp only [← hg_b20] at HB_b20 ⊢
     have HN_V := hid (show b20 = w8.heap.size ∧ b20 < V.heap.size from ⟨hg_b20, HB_b20.out.1⟩)
     clear hg_b20
     have HEV := hid (HE8.out.trans HE_V.out)
     have HB8_ := hid (HB8.out.of HEV.out)
     have HB16_ := hid (HB16.out.of HEV.out)
     have HB7_ := hid (HB7.out.of HEV.out)
     have HWT_ := hid (HWT.out.of HEV.out)
     have HXT_ := hid (And.intro (HXT.out.1.of HEV.out) (HXT.out.2.trans HEV.out))
     have HMT_ := hid (And.intro (And.intro (Met26.of HMT.out.1.1 HEV.out) HMT.out.1.2) HMT.out.2)
     clear HB8 HB16 HB7 HWT HXT HMT
     have HB8 := HB8_
     have HB16 := HB16_
     have HB7 := HB7_
     have HWT := HWT_
     have HXT := HXT_
     have HMT := HMT_
     clear HB8_ HB16_ HB7_ HWT_ HXT_ HMT_
     have e_ := HB13.out.of HEV.out
     have e0 := (e_).2.2 0 _ rfl
     have e1 := (e_).2.2 1 _ rfl
     have e2 := (e_).2.2 2 _ rfl
     have ef := (e_).2.1
     have eg := (e_).1
     have c_ := HB15.out.of HEV.out
     have c0 := (c_).2.2 0 _ rfl
     have c1 := (c_).2.2 1 _ rfl
     have c2 := (c_).2.2 2 _ rfl
     have cf := (c_).2.1
     have cg := (c_).1
     have d0 := (HB_b20.out).2.2 0 _ rfl
     have d1 := (HB_b20.out).2.2 1 _ rfl
     have d2 := (HB_b20.out).2.2 2 _ rfl
     have df := (HB_b20.out).2.1
     have dg := (HB_b20.out).1
     clear e_ c_
     have htt := HB7.out.bool_at HTS.out
     have hw0 := HB7.out.1
     go_upto_region 22 with fail
     clear e0 e1 e2 ef eg c0 c1 c2 cf cg d0 d1 d2 df dg
     have HDq := HD
     clear htt hw0
     have h8_ := HB8.out
     have f0 := (h8_).2.2 0 _ rfl
     have f1 := (h8_).2.2 1 _ rfl
     have f2 := (h8_).2.2 2 _ rfl
     have f3 := (h8_).2.2 3 _ rfl
     have f4 := (h8_).2.2 4 _ rfl
     have f5 := (h8_).2.2 5 _ rfl
     have f6 := (h8_).2.2 6 _ rfl
     have f7 := (h8_).2.2 7 _ rfl
     have f8 := (h8_).2.2 8 _ rfl
     have ff := (h8_).2.1
     have fg := (h8_).1
     clear h8_
     have g0 := (HB16.out).2.2 0 _ rfl
     have g1 := (HB16.out).2.2 1 _ rfl
     have g2 := (HB16.out).2.2 2 _ rfl
     have g3 := (HB16.out).2.2 3 _ rfl
     have g4 := (HB16.out).2.2 4 _ rfl
     have g5 := (HB16.out).2.2 5 _ rfl
     have g6 := (HB16.out).2.2 6 _ rfl
     have g7 := (HB16.out).2.2 7 _ rfl
     have g8 := (HB16.out).2.2 8 _ rfl
     have gf := (HB16.out).2.1
     have gg := (HB16.out).1
     go_wp2_with fail
     generalize hZ_ : World.setCell _ _ _ = Z2
     have HGZ := hid (show GrL [b8] V Z2 by rw [← hZ_]; (show GrL _ _ _; repeat (first | with_reducible exact GrL.refl | ((with_reducible refine GrL.set ?_ ?_ _); rotate_left 1; focus (simp; done)) | ((with_reducible refine GrL.ext ?_ _)) | ((with_reducible refine GrL.alloc ?_ _)) | ((with_reducible refine GrL.drew ?_)))))
     have HBZ := hid (show Blk Z2 b8 [.slice pa2 pn2 pc2, .slice va2 vn2 vc2, .slice fa2 fn2 fc2, .slice la2 ln2 lc2, .map none, .slice sa2 sn2 sc2, .int .i64 0, .slice (some ⟨tb, to_, none⟩) 3 tc2, .slice ba2 bn2 bc2] by rw [← hZ_]; have h3 := HB8.out; (show Blk _ _ _; (with_reducible apply Blk.cast); (repeat first | (with_reducible first | (refine xH ?_; assumption) | assumption | apply bD | apply bX | apply bA | apply Blk.set) | ((with_reducible apply bO); first | omega | (simp; omega))); all_goals (first | rfl | (simp; done))))
     clear hZ_ f0 f1 f2 f3 f4 f5 f6 f7 f8 ff fg g0 g1 g2 g3 g4 g5 g6 g7 g8 gf gg
     have HWZ2 := hid (wv_lit (wv_back (q := none) (cr := 0) (wv_of HWT.out) HGZ.out HNB.out.1 HNB.out.2.1))
     refine (word26 HWZ2.out HIq.out.1 (Nat.le_trans (le_next HJm.out HJq.out) (Nat.le_trans HQ2.out (by decide)))).mono ?_
     rintro e w9 ⟨rfl, he⟩
     have HE9 := hid he
     clear he
     go_wp2_with fail
     generalize hY_ : World.alloc _ _ = Y2
     have hE := HE9.out.trans (show Ext w9 Y2 by rw [← hY_]; (show Ext _ _; repeat first | (with_reducible first | (refine xH ?_; assumption) | exact xR _ | refine xX ?_ _ | refine xA ?_ _) | refine xD ?_ | refine xN ?_ _ | exact xR _))
     clear hY_
     go_roundw
     case rel =>
      exact ⟨jq, le_next HJm.out HJq.out, by first | exact slot_next' hwq | exact slot_next HJq.out | (rw [hwq]), _, _, _, _, _, _, _, _, _, _, _, _, _, _, _, _, _, _, _, _, _, _, _, _, _, n, f, dv, rfl, HDq, hid (HBZ.out.of hE), hid ((HB7.out.grl HGZ.out (by simp; exact HNB.out.2.2.1)).of hE), hid (HWZ2.out.of hE), hid ⟨(HXT.out.1.grl HGZ.out).of hE, (HXT.out.2.grl HGZ.out (by simp; exact HNB.out.2.2.2.2.1)).trans hE⟩, hid ⟨⟨(Met26.grl HMT.out.1.1 HGZ.out HNB.out.2.2.2.2.2).of hE, by rw [HJq.out]; exact HMT.out.1.2⟩, HMT.out.2⟩, HIq⟩
     case measure => first | exact meas_next2 HJm.out HJq.out | exact meas_next3 hwq HJm.out HJq.out | exact meas_next HJm.out HJq.out
    ·clear HP
     have HIq := hid (show G26 m' (cv + 1, 0, 0) jq ∧ Inv time (cv + 1) [sa0, sb0, sc0] ts' jq ∧ bs.length = 3 by rw [HJq.out]; exact ⟨hg', hi', HI.out.2.2⟩)
     clear hg' hi'
     obtain ⟨dq, hwd, hwt2, hdq, hwf⟩ := dv_up HD.out HI.out.2.1 (Nat.le_trans HJn.out (Nat.le_trans HQ2.out (by decide)))
     have HDq := hid hdq
     clear hdq hwt
     subst h1k
     refine (hst Z (fun b => ((w.heap.size ≤ b ∧ b < w1.heap.size) ∨ X.heap.size ≤ b) ∧ b < Z.heap.size) _ (fun b h => h.2) (wv_of HWZ.out.bnd)).mono ?_
     rintro e w3 ⟨v', rfl, hS, hv⟩
     have hv := wv_fold hv HCZ.out
     obtain ⟨pa2, va2, fa2, la2, sa2, ta2, ba2, pn2, pc2, vn2, vc2, fn2, fc2, ln2, lc2, sn2, sc2, tn2, tc2, bn2, bc2, rfl, hw⟩ := hv
     have HE_4 := hid (HE_3.out.trans hS)
     have HW4 := hid hw
     clear hst hw
     obtain ⟨tb, to_, ga, gc, hta, hx⟩ := task_over HW4.out.2.1 hkk rfl
     obtain ⟨gn, hgn⟩ : ∃ n, n = g.length := ⟨_, rfl⟩
     rw [← hgn] at hx
     have HX := hid hx
     subst hta
     obtain rfl : tn2 = 3 := tn_three HW4.out.2.1 HIq.out.2.1
     clear hx hgn hkk
     have HB8w := hid (HB3.out.of hS)
     have hSz := hS.size
     have e_ := (show Blk Y b13 [.int .i64 0, .int .i64 k2, .int .i64 k3] from HB_b13.out).of (show Ext Y w3 from Ext.trans hYZ.out hS)
     have hB15 := (show Blk Z b15 [.int .i64 cv, .int .u32 0, .int .u32 0] from HB_b15.out).of hS
     have HB15w := hid hB15
     have HB13w := hid e_
     clear hS hB15 e_ e0 e1 e2 ef eg
     go_upto_region 14 with fail
     generalize hV_ : World.alloc _ _ = U
     have HE_U := hid (show Ext w3 U by rw [← hV_]; (show Ext _ _; repeat first | (with_reducible first | (refine xH ?_; assumption) | exact xR _ | refine xX ?_ _ | refine xA ?_ _) | refine xD ?_ | refine xN ?_ _ | exact xR _))
     have HB_b16 := hid (show Blk U (w3.heap.size) [.slice pa2 pn2 pc2, .slice va2 vn2 vc2, .slice fa2 fn2 fc2, .slice la2 ln2 lc2, .map none, .slice sa2 sn2 sc2, .int .i64 0, .slice (some ⟨tb, to_, none⟩) 3 tc2, .slice ba2 bn2 bc2] by rw [← hV_]; (show Blk _ _ _; repeat first | (with_reducible first | (refine xH ?_; assumption) | refine bD ?_ | refine bX ?_ _) | (with_reducible refine bN _ _ rfl ?_; first | with_reducible rfl | (simp; done)) | (with_reducible first | refine bA ?_ _ | assumption | apply bS) | (with_reducible refine bO ?_ ?_; first | omega | (simp; omega)) | (show List.set _ _ _ = _; exact rfl) | (show _ < List.length _; simp; done)))
     clear hV_
     obtain ⟨b16, hg_b16⟩ : ∃ g, g = w3.heap.size := ⟨_, rfl⟩
     simp only [← hg_b16] at HB_b16 ⊢
     have HN_U := hid (show b16 = w3.heap.size ∧ b16 < U.heap.size from ⟨hg_b16, HB_b16.out.1⟩)
     clear hg_b16
     have HEU := hid (HE_4.out.trans HE_U.out)
     have HC16 := hid (show mb ≠ b16 by
      have h1 := HNX.out.2.2.2
      have h2 := HCZ.out
      have h3 := hSz
      have h4 := HN_U.out.1
      omega)
     have HB8 := hid (HB8w.out.of HE_U.out)
     have HB16 := HB_b16
     have HB7 := hid (HB7r.out.of HEU.out)
     have HWT := hid (HW4.out.of HE_U.out)
     have HXT := hid (And.intro (HG.out.1.of HEU.out) (HG.out.2.trans HEU.out))
     have HMT := hid (show (Met26 U mb n f ∧ n ≤ j + 1) ∧ ∀ x, f x = decide (time + 1 ≤ x ∧ x ≤ cv) from ⟨⟨Met26.of HMt.out.1.1 HEU.out, Nat.le_succ_of_le HMt.out.1.2⟩, HMt.out.2⟩)
     have HB13 := hid (HB13w.out.of HE_U.out)
     have HB15 := hid (HB15w.out.of HE_U.out)
     clear hSz HB8w HB13w HB15w HB_b16 HE_4 HW4
     have e0 := (HB13.out).2.2 0 _ rfl
     have e1 := (HB13.out).2.2 1 _ rfl
     have e2 := (HB13.out).2.2 2 _ rfl
     have ef := (HB13.out).2.1
     have eg := (HB13.out).1
     obtain ⟨hpw, hpi, hi3, hpd, hpe⟩ := pick_int hki hil
     have HTS := hid htk
     clear hki hil htk
     obtain ⟨htb, x0, x1, x2, x3, x4, x5, x6, x7, x8, x9, x10⟩ := (HX.out.of HE_U.out).open
     have g0 := (HB16.out).2.2 0 _ rfl
     have g1 := (HB16.out).2.2 1 _ rfl
     have g2 := (HB16.out).2.2 2 _ rfl
     have g3 := (HB16.out).2.2 3 _ rfl
     have g4 := (HB16.out).2.2 4 _ rfl
     have g5 := (HB16.out).2.2 5 _ rfl
     have g6 := (HB16.out).2.2 6 _ rfl
     have g7 := (HB16.out).2.2 7 _ rfl
     have g8 := (HB16.out).2.2 8 _ rfl
     have gf := (HB16.out).2.1
     have gg := (HB16.out).1
     go_wp2_with fail
     refine (tdone_any (.iface ckT (.agg #[.int .i64 0, .bool true, .int .i64 3, .int .i64 (cv + 1)])) .nilFunc true (.inl ⟨rfl, rfl⟩) ⟨0, 0, (0, 0, 0), (0, 0, 0)⟩ ga gn gc _).mono ?_
     rintro e w5 ⟨rfl, r5, hr5⟩
     have HE5 := hid (show Ext U w5 from ⟨r5, hr5⟩)
     clear hr5 x0 x1 x2 x3 x4 x5 x6 x7 x8 x9 x10 htb g0 g1 g2 g3 g4 g5 g6 g7 g8 gf gg e0 e1 e2 ef eg
     obtain ⟨htb, x0, x1, x2, x3, x4, x5, x6, x7, x8, x9, x10⟩ := (HX.out.of (HE_U.out.trans HE5.out)).open
     have g_ := HB16.out.of HE5.out
     have g0 := (g_).2.2 0 _ rfl
     have g1 := (g_).2.2 1 _ rfl
     have g2 := (g_).2.2 2 _ rfl
     have g3 := (g_).2.2 3 _ rfl
     have g4 := (g_).2.2 4 _ rfl
     have g5 := (g_).2.2 5 _ rfl
     have g6 := (g_).2.2 6 _ rfl
     have g7 := (g_).2.2 7 _ rfl
     have g8 := (g_).2.2 8 _ rfl
     have gf := (g_).2.1
     have gg := (g_).1
     have e_ := HB13.out.of HE5.out
     have e0 := (e_).2.2 0 _ rfl
     have e1 := (e_).2.2 1 _ rfl
     have e2 := (e_).2.2 2 _ rfl
     have ef := (e_).2.1
     have eg := (e_).1
     clear g_ e_
     go_wp2_with fail
     refine (tcode_any (.iface ckT (.agg #[.int .i64 0, .bool true, .int .i64 3, .int .i64 (cv + 1)])) .nilFunc ⟨0, 0, (0, 0, 0), (0, 0, 0)⟩ ga gn gc _).mono ?_
     rintro e w6 ⟨rfl, r6, hr6⟩
     have HE6 := hid (show Ext U w6 from HE5.out.trans ⟨r6, hr6⟩)
     clear hr6 x0 x1 x2 x3 x4 x5 x6 x7 x8 x9 x10 htb g0 g1 g2 g3 g4 g5 g6 g7 g8 gf gg e0 e1 e2 ef eg
     go_wp2_with fail
     refine (ctime_over 0 true (cv + 1) _).mono ?_
     rintro e w7 ⟨rfl, r7, hr7⟩
     have HE7 := hid (show Ext U w7 from HE6.out.trans ⟨r7, hr7⟩)
     clear hr7
     have g_ := HB16.out.of HE7.out
     have g0 := (g_).2.2 0 _ rfl
     have g1 := (g_).2.2 1 _ rfl
     have g2 := (g_).2.2 2 _ rfl
     have g3 := (g_).2.2 3 _ rfl
     have g4 := (g_).2.2 4 _ rfl
     have g5 := (g_).2.2 5 _ rfl
     have g6 := (g_).2.2 6 _ rfl
     have g7 := (g_).2.2 7 _ rfl
     have g8 := (g_).2.2 8 _ rfl
     have gf := (g_).2.1
     have gg := (g_).1
     clear g_
     go_wp2_with fail
     refine (word26 (HWT.out.of HE7.out) HIq.out.1 (Nat.le_trans (le_next HJm.out HJq.out) (Nat.le_trans HQ2.out (by decide)))).mono ?_
     rintro e w8 ⟨rfl, he⟩
     have HE8 := hid (HE7.out.trans he)
     clear he g0 g1 g2 g3 g4 g5 g6 g7 g8 gf gg
     go_upto_region 17 with fail
     generalize hV_ : World.alloc _ _ = V
     have HE_V := hid (show Ext w8 V by rw [← hV_]; (show Ext _ _; repeat first | (with_reducible first | (refine xH ?_; assumption) | exact xR _ | refine xX ?_ _ | refine xA ?_ _) | refine xD ?_ | refine xN ?_ _ | exact xR _))
     have HB_b20 := hid (show Blk V (w8.heap.size) [.int .i64 (cv + 1), .int .u32 0, .int .u32 0] by rw [← hV_]; (show Blk _ _ _; repeat first | (with_reducible first | (refine xH ?_; assumption) | refine bD ?_ | refine bX ?_ _) | (with_reducible refine bN _ _ rfl ?_; first | with_reducible rfl | (simp; done)) | (with_reducible first | refine bA ?_ _ | assumption | apply bS) | (with_reducible refine bO ?_ ?_; first | omega | (simp; omega)) | (show List.set _ _ _ = _; exact rfl) | (show _ < List.length _; simp; done)))
     clear hV_
     obtain ⟨b20, hg_b20⟩ : ∃ g, g = w8.heap.size := ⟨_, rfl⟩
     simp only [← hg_b20] at HB_b20 ⊢
     have HN_V := hid (show b20 = w8.heap.size ∧ b20 < V.heap.size from ⟨hg_b20, HB_b20.out.1⟩)
     clear hg_b20
     have HEV := hid (HE8.out.trans HE_V.out)
     have HB8_ := hid (HB8.out.of HEV.out)
     have HB16_ := hid (HB16.out.of HEV.out)
     have HB7_ := hid (HB7.out.of HEV.out)
     have HWT_ := hid (HWT.out.of HEV.out)
     have HXT_ := hid (And.intro (HXT.out.1.of HEV.out) (HXT.out.2.trans HEV.out))
     have HMT_ := hid (And.intro (And.intro (Met26.of HMT.out.1.1 HEV.out) HMT.out.1.2) HMT.out.2)
     clear HB8 HB16 HB7 HWT HXT HMT
     have HB8 := HB8_
     have HB16 := HB16_
     have HB7 := HB7_
     have HWT := HWT_
     have HXT := HXT_
     have HMT := HMT_
     clear HB8_ HB16_ HB7_ HWT_ HXT_ HMT_
     have e_ := HB13.out.of HEV.out
     have e0 := (e_).2.2 0 _ rfl
     have e1 := (e_).2.2 1 _ rfl
     have e2 := (e_).2.2 2 _ rfl
     have ef := (e_).2.1
     have eg := (e_).1
     have c_ := HB15.out.of HEV.out
     have c0 := (c_).2.2 0 _ rfl
     have c1 := (c_).2.2 1 _ rfl
     have c2 := (c_).2.2 2 _ rfl
     have cf := (c_).2.1
     have cg := (c_).1
     have d0 := (HB_b20.out).2.2 0 _ rfl
     have d1 := (HB_b20.out).2.2 1 _ rfl
     have d2 := (HB_b20.out).2.2 2 _ rfl
     have df := (HB_b20.out).2.1
     have dg := (HB_b20.out).1
     clear e_ c_
     have htt := HB7.out.bool_at HTS.out
     have HMN := hid (met_no HMT.out.2)
     have HWF := hid hwf
     have HN6 := hid (n_small HMT.out.1.2 HJn.out HQ2.out)
     clear hwf
     have hw0 := HB7.out.1
     go_upto_region 21 with (at_lookup; refine map_get_as (elBool Tryd.prog 4 Tryd.underlying4 Tryd.zeroBool26) Tryd.underlying2 Tryd.underlying44 rfl _ _ rfl rfl HMT.out.1.1 (cv + 1) HWF.out rfl (.bool false) (congrArg Value.bool HMN.out) ?_)
     clear e0 e1 e2 ef eg c0 c1 c2 cf cg d0 d1 d2 df dg
     go_upto_region 22 with (at_mapUpdate; refine map_put (elBool Tryd.prog 4 Tryd.underlying4 Tryd.zeroBool26) Tryd.underlying2 Tryd.underlying44 rfl _ _ _ rfl w HXT.out.2 HNM.out.2 rfl HMT.out.1.1 HN6.out (cv + 1) HWF.out true trivial rfl rfl ?_; intro w10 hE1 hM1 hG1)
     have HB8_ := hid (HB8.out.gro hG1 (by simp; exact HNB.out.2.2.2.2.2))
     have HB16_ := hid (HB16.out.gro hG1 (by simp; exact HC16.out))
     have HB7_ := hid (HB7.out.gro hG1 (by simp; exact fun h => HNB.out.2.2.2.1 h.symm))
     have HWT_ := hid (HWT.out.gro hG1 HNM.out.1)
     have HXT_ := hid (And.intro (HXT.out.1.gro hG1) hE1)
     have HMT_ := hid (show (Met26 w10 mb (n + 1) (fun y => if y = cv + 1 then true else f y) ∧ n + 1 ≤ j + 1) ∧ ∀ x, (if x = cv + 1 then true else f x) = decide (time + 1 ≤ x ∧ x ≤ cv + 1) from ⟨⟨hM1, Nat.succ_le_succ HMt.out.1.2⟩, met_up HI.out.2.1.cv.1 HMT.out.2⟩)
     clear HB8 HB16 HB7 HWT HXT HMT hE1 hM1 hG1 htt hw0
     have HB8 := HB8_
     have HB16 := HB16_
     have HB7 := HB7_
     have HWT := HWT_
     have HXT := HXT_
     have HMT := HMT_
     clear HB8_ HB16_ HB7_ HWT_ HXT_ HMT_
     have hwt := hwt2
     clear hwt2
     have h8_ := HB8.out
     have f0 := (h8_).2.2 0 _ rfl
     have f1 := (h8_).2.2 1 _ rfl
     have f2 := (h8_).2.2 2 _ rfl
     have f3 := (h8_).2.2 3 _ rfl
     have f4 := (h8_).2.2 4 _ rfl
     have f5 := (h8_).2.2 5 _ rfl
     have f6 := (h8_).2.2 6 _ rfl
     have f7 := (h8_).2.2 7 _ rfl
     have f8 := (h8_).2.2 8 _ rfl
     have ff := (h8_).2.1
     have fg := (h8_).1
     clear h8_
     have g0 := (HB16.out).2.2 0 _ rfl
     have g1 := (HB16.out).2.2 1 _ rfl
     have g2 := (HB16.out).2.2 2 _ rfl
     have g3 := (HB16.out).2.2 3 _ rfl
     have g4 := (HB16.out).2.2 4 _ rfl
     have g5 := (HB16.out).2.2 5 _ rfl
     have g6 := (HB16.out).2.2 6 _ rfl
     have g7 := (HB16.out).2.2 7 _ rfl
     have g8 := (HB16.out).2.2 8 _ rfl
     have gf := (HB16.out).2.1
     have gg := (HB16.out).1
     go_wp2_with fail
     generalize hZ_ : World.setCell _ _ _ = Z2
     have HGZ := hid (show GrL [b8] w10 Z2 by rw [← hZ_]; (show GrL _ _ _; repeat (first | with_reducible exact GrL.refl | ((with_reducible refine GrL.set ?_ ?_ _); rotate_left 1; focus (simp; done)) | ((with_reducible refine GrL.ext ?_ _)) | ((with_reducible refine GrL.alloc ?_ _)) | ((with_reducible refine GrL.drew ?_)))))
     have HBZ := hid (show Blk Z2 b8 [.slice pa2 pn2 pc2, .slice va2 vn2 vc2, .slice fa2 fn2 fc2, .slice la2 ln2 lc2, .map none, .slice sa2 sn2 sc2, .int .i64 0, .slice (some ⟨tb, to_, none⟩) 3 tc2, .slice ba2 bn2 bc2] by rw [← hZ_]; have h3 := HB8.out; (show Blk _ _ _; (with_reducible apply Blk.cast); (repeat first | (with_reducible first | (refine xH ?_; assumption) | assumption | apply bD | apply bX | apply bA | apply Blk.set) | ((with_reducible apply bO); first | omega | (simp; omega))); all_goals (first | rfl | (simp; done))))
     clear hZ_ f0 f1 f2 f3 f4 f5 f6 f7 f8 ff fg g0 g1 g2 g3 g4 g5 g6 g7 g8 gf gg
     have HWZ2 := hid (wv_lit (wv_back (q := none) (cr := 0) (wv_of HWT.out) HGZ.out HNB.out.1 HNB.out.2.1))
     refine (word26 HWZ2.out HIq.out.1 (Nat.le_trans (le_next HJm.out HJq.out) (Nat.le_trans HQ2.out (by decide)))).mono ?_
     rintro e w9 ⟨rfl, he⟩
     have HE9 := hid he
     clear he
     go_wp2_with fail
     generalize hY_ : World.alloc _ _ = Y2
     have hE := HE9.out.trans (show Ext w9 Y2 by rw [← hY_]; (show Ext _ _; repeat first | (with_reducible first | (refine xH ?_; assumption) | exact xR _ | refine xX ?_ _ | refine xA ?_ _) | refine xD ?_ | refine xN ?_ _ | exact xR _))
     clear hY_
     go_roundw
     case rel =>
      exact ⟨jq, le_next HJm.out HJq.out, by first | exact slot_next' hwq | exact slot_next HJq.out | (rw [hwq]), _, _, _, _, _, _, _, _, _, _, _, _, _, _, _, _, _, _, _, _, _, _, _, _, _, (n + 1), (fun y => if y = cv + 1 then true else f y), dq, rfl, HDq, hid (HBZ.out.of hE), hid ((HB7.out.grl HGZ.out (by simp; exact HNB.out.2.2.1)).of hE), hid (HWZ2.out.of hE), hid ⟨(HXT.out.1.grl HGZ.out).of hE, (HXT.out.2.grl HGZ.out (by simp; exact HNB.out.2.2.2.2.1)).trans hE⟩, hid ⟨⟨(Met26.grl HMT.out.1.1 HGZ.out HNB.out.2.2.2.2.2).of hE, by rw [HJq.out]; exact HMT.out.1.2⟩, HMT.out.2⟩, HIq⟩
     case measure => first | exact meas_next2 HJm.out HJq.out | exact meas_next3 hwq HJm.out HJq.out | exact meas_next HJm.out HJq.out
  ·have hjm2 : ¬ (j : Int) < (qn : Int) := fun h => hjm (by omega)
   have hjm3 : (qn : Int) ≤ (j : Int) := by omega
   clear hjm
   have hts : ts.length = 3 := HI.out.2.1.len
   obtain rfl : tn1 = 3 := tn_three HW.out.2.1 HI.out.2.1
   obtain ⟨k0_, hk0_⟩ := get3 hts (j := 0) (by decide)
   obtain ⟨r0_, tbb, tbo, hta, -, -, -, -⟩ := HW.out.2.1.at hk0_
   subst hta
   clear hk0_ r0_ k0_
   have HTl := hid hts
   clear hts
   have f0 := (HB.out).2.2 0 _ rfl
   have f1 := (HB.out).2.2 1 _ rfl
   have f2 := (HB.out).2.2 2 _ rfl
   have f3 := (HB.out).2.2 3 _ rfl
   have f4 := (HB.out).2.2 4 _ rfl
   have f5 := (HB.out).2.2 5 _ rfl
   have f6 := (HB.out).2.2 6 _ rfl
   have f7 := (HB.out).2.2 7 _ rfl
   have f8 := (HB.out).2.2 8 _ rfl
   have ff := (HB.out).2.1
   have fg := (HB.out).1
   clear f0 f1 f2 f3 f4 f5 f6 f8 ff
   go_wp2_with fail
   clear f7 fg
   obtain ⟨U, hU⟩ : ∃ U, U = wr := ⟨_, rfl⟩
   have HUe := hid (show Ext U wr by rw [hU]; exact Ext.refl _)
   have HWU := hid (show WR ckK U (fun b => (w.heap.size ≤ b ∧ b < w1.heap.size) ∨ X.heap.size ≤ b) (.slice pa1 pn1 pc1) (.slice va1 vn1 vc1) (.slice fa1 fn1 fc1) (.slice la1 ln1 lc1) (.slice sa1 sn1 sc1) (.slice (some ⟨tbb, tbo, none⟩) 3 tc1) (.slice ba1 bn1 bc1) m ts bs by rw [hU]; exact HW.out)
   have HB7U := hid (show Blk U b7 [.bool sa0, .bool sb0, .bool sc0] by rw [hU]; exact HB7r.out)
   have HwU2 := hid (show Ext w U by rw [hU]; exact HEr.out)
   clear hU HW HB HG HEr HMt HB7r
   go_loopw [188] (fun i_ wr => ∃ (j2 : Nat), j2 ≤ 3 ∧ i_ = .int .i64 j2 ∧ Hid (Ext U wr)) (fun i_ _ => 3 - (intOf i_).toNat)
   case atStart => exact ⟨0, by decide, rfl, HUe⟩
   case round =>
    clear HUe
    obtain ⟨j2, hj2, rfl, HE2⟩ := hrel
    by_cases hjm : j2 < 3
    ·have hjm2 : (j2 : Int) < 3 := lt_int hjm
     obtain ⟨k, hk⟩ := get3 HTl.out hjm
     obtain ⟨tick, htk⟩ : ∃ t, [sa0, sb0, sc0][j2]? = some t := get3 rfl hjm
     obtain ⟨jq, hjq⟩ : ∃ x, x = j2 + 1 := ⟨_, rfl⟩
     have hwq := wq3 (Nat.lt_trans hjm (by decide)) hjq
     have HJm := hid hjm
     have HJq := hid hjq
     have HTS := hid htk
     have hti : TI time cv tick k := HI.out.2.1.all j2 k tick hk htk
     have HW2 := hid (HWU.out.of HE2.out)
     have HF := hid hti.forms
     clear hti hjm hjq htk
     rcases HF.out with ⟨st, tm, ai, g, rfl, hst3, hg1⟩ | ⟨tm, ai, g, rfl, hg1⟩
     ·clear HF
      obtain ⟨tb, to_, p1, p2, p3, p4, p5, p6, p7, p8, ga, gc, hta, hx⟩ := task_under HW2.out.2.1 hk rfl
      obtain ⟨rfl, rfl⟩ : tbb = tb ∧ tbo = to_ := by simpa using hta
      have hgl := fun h => gl_le (hg1 h)
      obtain ⟨gn, hgn⟩ : ∃ n, n = g.length := ⟨_, rfl⟩
      rw [← hgn] at hx hgl
      have HX := hid hx
      have HGL := hid hgl
      clear hta hk hx hgn hg1 hgl
      obtain ⟨htb, x0, x1, x2, x3, x4, x5, x6, x7, x8, x9, x10⟩ := (HX.out).open
      go_upto_region 30 with fail
      generalize hV_ : World.alloc _ _ = U2
      have HE_U2 := hid (show Ext wr U2 by rw [← hV_]; (show Ext _ _; repeat first | (with_reducible first | (refine xH ?_; assumption) | exact xR _ | refine xX ?_ _ | refine xA ?_ _) | refine xD ?_ | refine xN ?_ _ | exact xR _))
      have HB_b25 := hid (show Blk U2 (wr.heap.size) [(.iface ckT (.agg #[.int .i64 0, .bool tick, .int .i64 st, .int .i64 tm])), (.func (.method "Next") #[.iface ckT (.agg #[.int .i64 0, .bool tick, .int .i64 st, .int .i64 tm])] #[]), .int .i64 p1, .int .i64 p2, .int .i64 p3, .int .u32 p4, .int .u32 p5, .int .i64 p6, .int .u32 p7, .int .u32 p8, .slice ga gn gc] by rw [← hV_]; (show Blk _ _ _; repeat first | (with_reducible first | (refine xH ?_; assumption) | refine bD ?_ | refine bX ?_ _) | (with_reducible refine bN _ _ rfl ?_; first | with_reducible rfl | (simp; done)) | (with_reducible first | refine bA ?_ _ | assumption | apply bS) | (with_reducible refine bO ?_ ?_; first | omega | (simp; omega)) | (show List.set _ _ _ = _; exact rfl) | (show _ < List.length _; simp; done)))
      clear hV_
      obtain ⟨b25, hg_b25⟩ : ∃ g, g = wr.heap.size := ⟨_, rfl⟩
      simp only [← hg_b25] at HB_b25 ⊢
      have HN_U2 := hid (show b25 = wr.heap.size ∧ b25 < U2.heap.size from ⟨hg_b25, HB_b25.out.1⟩)
      clear hg_b25
      clear x0 x1 x2 x3 x4 x5 x6 x7 x8 x9 x10 htb
      obtain ⟨x0, x1, x2, x3, x4, x5, x6, x7, x8, x9, x10⟩ := Blk.at11 HB_b25.out
      have xg := HB_b25.out.1
      go_wp2_with fail
      refine (tcode_any (.iface ckT (.agg #[.int .i64 0, .bool tick, .int .i64 st, .int .i64 tm])) (.func (.method "Next") #[.iface ckT (.agg #[.int .i64 0, .bool tick, .int .i64 st, .int .i64 tm])] #[]) ⟨p1, p2, (p3, p4, p5), (p6, p7, p8)⟩ ga gn gc _).mono ?_
      rintro e w5 ⟨rfl, r5, hr5⟩
      have HE5 := hid (show Ext U2 w5 from ⟨r5, hr5⟩)
      clear hr5 x0 x1 x2 x3 x4 x5 x6 x7 x8 x9 x10 xg
      go_wp2_with fail
      refine (ctime_under 0 tick st tm hst3 _).mono ?_
      rintro e w6 ⟨rfl, r6, hr6⟩
      have HE6 := hid (show Ext U2 w6 from HE5.out.trans ⟨r6, hr6⟩)
      clear hr6
      obtain ⟨x0, x1, x2, x3, x4, x5, x6, x7, x8, x9, x10⟩ := Blk.at11 (HB_b25.out.of HE6.out)
      have xg := (HB_b25.out.of HE6.out).1
      go_wp2_with fail
      refine (tdone_any (.iface ckT (.agg #[.int .i64 0, .bool tick, .int .i64 st, .int .i64 tm])) (.func (.method "Next") #[.iface ckT (.agg #[.int .i64 0, .bool tick, .int .i64 st, .int .i64 tm])] #[]) false (.inr ⟨rfl, _, _, _, rfl⟩) ⟨p1, p2, (p3, p4, p5), (p6, p7, p8)⟩ ga gn gc _).mono ?_
      rintro e w7 ⟨rfl, r7, hr7⟩
      have HE7 := hid (show Ext U2 w7 from HE6.out.trans ⟨r7, hr7⟩)
      clear hr7 x0 x1 x2 x3 x4 x5 x6 x7 x8 x9 x10 xg
      have hb_ := HB7U.out.of (HE2.out.trans (HE_U2.out.trans HE7.out))
      have htt := hb_.bool_at HTS.out
      have hw0 := hb_.1
      clear hb_
      cases tick
      ·have hgl := HGL.out rfl
       obtain ⟨hgl1, hgl2⟩ := hgl
       obtain ⟨x0, x1, x2, x3, x4, x5, x6, x7, x8, x9, x10⟩ := Blk.at11 (HB_b25.out.of HE7.out)
       have xg := (HB_b25.out.of HE7.out).1
       go_wp2_with fail
       refine (tsteps_any (.iface ckT (.agg #[.int .i64 0, .bool false, .int .i64 st, .int .i64 tm])) (.func (.method "Next") #[.iface ckT (.agg #[.int .i64 0, .bool false, .int .i64 st, .int .i64 tm])] #[]) ⟨p1, p2, (p3, p4, p5), (p6, p7, p8)⟩ ga gn gc _).mono ?_
       rintro e w8 ⟨rfl, r8, hr8⟩
       have HE8 := hid (show Ext U2 w8 from HE7.out.trans ⟨r8, hr8⟩)
       clear hr8 x0 x1 x2 x3 x4 x5 x6 x7 x8 x9 x10 xg htt hw0
       go_wp2_with fail
       go_roundw
       case rel => exact ⟨jq, le_next HJm.out HJq.out, by first | exact slot_next HJq.out | exact slot_next' hwq | rfl, hid (HE2.out.trans (HE_U2.out.trans HE8.out))⟩
       case measure => first | exact meas_next2 HJm.out HJq.out | exact meas_next3 hwq HJm.out HJq.out | exact meas_next HJm.out HJq.out
      ·go_wp2_with fail
       go_roundw
       case rel => exact ⟨jq, le_next HJm.out HJq.out, by first | exact slot_next HJq.out | exact slot_next' hwq | rfl, hid (HE2.out.trans (HE_U2.out.trans HE7.out))⟩
       case measure => first | exact meas_next2 HJm.out HJq.out | exact meas_next3 hwq HJm.out HJq.out | exact meas_next HJm.out HJq.out
     ·clear HF
      obtain ⟨tb, to_, ga, gc, hta, hx⟩ := task_over HW2.out.2.1 hk rfl
      obtain ⟨rfl, rfl⟩ : tbb = tb ∧ tbo = to_ := by simpa using hta
      have hgl := fun h => gl_le (hg1 h)
      obtain ⟨gn, hgn⟩ : ∃ n, n = g.length := ⟨_, rfl⟩
      rw [← hgn] at hx hgl
      have HX := hid hx
      have HGL := hid hgl
      clear hta hk hx hgn hg1 hgl
      obtain ⟨htb, x0, x1, x2, x3, x4, x5, x6, x7, x8, x9, x10⟩ := (HX.out).open
      go_upto_region 30 with fail
      generalize hV_ : World.alloc _ _ = U2
      have HE_U2 := hid (show Ext wr U2 by rw [← hV_]; (show Ext _ _; repeat first | (with_reducible first | (refine xH ?_; assumption) | exact xR _ | refine xX ?_ _ | refine xA ?_ _) | refine xD ?_ | refine xN ?_ _ | exact xR _))
      have HB_b25 := hid (show Blk U2 (wr.heap.size) [(.iface ckT (.agg #[.int .i64 0, .bool tick, .int .i64 3, .int .i64 tm])), .nilFunc, .int .i64 0, .int .i64 0, .int .i64 0, .int .u32 0, .int .u32 0, .int .i64 0, .int .u32 0, .int .u32 0, .slice ga gn gc] by rw [← hV_]; (show Blk _ _ _; repeat first | (with_reducible first | (refine xH ?_; assumption) | refine bD ?_ | refine bX ?_ _) | (with_reducible refine bN _ _ rfl ?_; first | with_reducible rfl | (simp; done)) | (with_reducible first | refine bA ?_ _ | assumption | apply bS) | (with_reducible refine bO ?_ ?_; first | omega | (simp; omega)) | (show List.set _ _ _ = _; exact rfl) | (show _ < List.length _; simp; done)))
      clear hV_
      obtain ⟨b25, hg_b25⟩ : ∃ g, g = wr.heap.size := ⟨_, rfl⟩
      simp only [← hg_b25] at HB_b25 ⊢
      have HN_U2 := hid (show b25 = wr.heap.size ∧ b25 < U2.heap.size from ⟨hg_b25, HB_b25.out.1⟩)
      clear hg_b25
      clear x0 x1 x2 x3 x4 x5 x6 x7 x8 x9 x10 htb
      obtain ⟨x0, x1, x2, x3, x4, x5, x6, x7, x8, x9, x10⟩ := Blk.at11 HB_b25.out
      have xg := HB_b25.out.1
      go_wp2_with fail
      refine (tcode_any (.iface ckT (.agg #[.int .i64 0, .bool tick, .int .i64 3, .int .i64 tm])) .nilFunc ⟨0, 0, (0, 0, 0), (0, 0, 0)⟩ ga gn gc _).mono ?_
      rintro e w5 ⟨rfl, r5, hr5⟩
      have HE5 := hid (show Ext U2 w5 from ⟨r5, hr5⟩)
      clear hr5 x0 x1 x2 x3 x4 x5 x6 x7 x8 x9 x10 xg
      go_wp2_with fail
      refine (ctime_over 0 tick tm _).mono ?_
      rintro e w6 ⟨rfl, r6, hr6⟩
      have HE6 := hid (show Ext U2 w6 from HE5.out.trans ⟨r6, hr6⟩)
      clear hr6
      obtain ⟨x0, x1, x2, x3, x4, x5, x6, x7, x8, x9, x10⟩ := Blk.at11 (HB_b25.out.of HE6.out)
      have xg := (HB_b25.out.of HE6.out).1
      go_wp2_with fail
      refine (tdone_any (.iface ckT (.agg #[.int .i64 0, .bool tick, .int .i64 3, .int .i64 tm])) .nilFunc true (.inl ⟨rfl, rfl⟩) ⟨0, 0, (0, 0, 0), (0, 0, 0)⟩ ga gn gc _).mono ?_
      rintro e w7 ⟨rfl, r7, hr7⟩
      have HE7 := hid (show Ext U2 w7 from HE6.out.trans ⟨r7, hr7⟩)
      clear hr7 x0 x1 x2 x3 x4 x5 x6 x7 x8 x9 x10 xg
      have hb_ := HB7U.out.of (HE2.out.trans (HE_U2.out.trans HE7.out))
      have htt := hb_.bool_at HTS.out
      have hw0 := hb_.1
      clear hb_
      cases tick
      ·have hgl := HGL.out rfl
       obtain ⟨hgl1, hgl2⟩ := hgl
       obtain ⟨x0, x1, x2, x3, x4, x5, x6, x7, x8, x9, x10⟩ := Blk.at11 (HB_b25.out.of HE7.out)
       have xg := (HB_b25.out.of HE7.out).1
       go_wp2_with fail
       refine (tsteps_any (.iface ckT (.agg #[.int .i64 0, .bool false, .int .i64 3, .int .i64 tm])) .nilFunc ⟨0, 0, (0, 0, 0), (0, 0, 0)⟩ ga gn gc _).mono ?_
       rintro e w8 ⟨rfl, r8, hr8⟩
       have HE8 := hid (show Ext U2 w8 from HE7.out.trans ⟨r8, hr8⟩)
       clear hr8 x0 x1 x2 x3 x4 x5 x6 x7 x8 x9 x10 xg htt hw0
       go_wp2_with fail
       go_roundw
       case rel => exact ⟨jq, le_next HJm.out HJq.out, by first | exact slot_next HJq.out | exact slot_next' hwq | rfl, hid (HE2.out.trans (HE_U2.out.trans HE8.out))⟩
       case measure => first | exact meas_next2 HJm.out HJq.out | exact meas_next3 hwq HJm.out HJq.out | exact meas_next HJm.out HJq.out
      ·go_wp2_with fail
       go_roundw
       case rel => exact ⟨jq, le_next HJm.out HJq.out, by first | exact slot_next HJq.out | exact slot_next' hwq | rfl, hid (HE2.out.trans (HE_U2.out.trans HE7.out))⟩
       case measure => first | exact meas_next2 HJm.out HJq.out | exact meas_next3 hwq HJm.out HJq.out | exact meas_next HJm.out HJq.out
    ·have hj3 : j2 = 3 := eq3 hj2 hjm
     subst hj3
     clear hjm
     go_wp2_with fail
     refine (awake26_any (HS.out.of (HwU2.out.trans HE2.out))).mono ?_
     rintro e w9 ⟨rfl, he9⟩
     have HE9 := hid ((HwU2.out.trans HE2.out).trans he9)
     clear he9
     go_wp2_with fail
     go_ret
     exact ⟨rfl, HE9.out⟩
end Go.Proofs.YtadilekaombofaaDoor
