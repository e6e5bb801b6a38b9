/- The law ClockTicks, walked: no pick. -/
import Derived.Test.YtadilekaombofaaDoorPk42
namespace Go.Proofs.YtadilekaombofaaDoor
set_option linter.unusedSimpArgs false
set_option linter.unusedVariables false
open Go.RowKit Go.Maps
set_option maxRecDepth 100000 in
set_option maxHeartbeats 4000000 in
theorem clticks_none (time : Int) (sa0 sb0 sc0 : Bool) {qa : Option Addr} {qn qc : Nat} {l : List Pk} {w : World} (hs : Szs w) (hl : Sl w 3 pkE (.slice qa qn qc) l) (hl0 : l = []) : Calls Tryd.prog 3 #[.int .i64 time, .agg #[.bool sa0, .bool sb0, .bool sc0], .slice qa qn qc] w fun e w' => e = .returned (.bool true) ∧ Ext w w' := by
 have hqn : qn = l.length := by obtain ⟨a', c', hv, _⟩ := hl; simp only [Value.slice.injEq] at hv; exact hv.2.1
 have HS := hid hs
 have HL := hid hl
 have HL0 := hid hl0
 clear hl0
 have HQ := hid hqn
 clear hs hl hqn
 by_cases h1 : 100 < qn
 ·have h1i : (100 : Int) < (qn : Int) := by omega
  have h1d : decide ((100 : Int) < (qn : Int)) = true := decide_eq_true h1i
  clear h1
  go_enter Tryd.func3, Tryd.ntmps3
  go_wp2_with fail
  refine (awake26_any (HS.out.of (by (show Ext _ _; repeat first | (with_reducible first | (refine xH ?_; assumption) | exact xR _ | refine xX ?_ _ | refine xA ?_ _) | refine xD ?_ | refine xN ?_ _ | exact xR _)))).mono ?_
  rintro e w6 ⟨rfl, r6, rfl⟩
  go_wp2_with fail
  go_ret
  exact ⟨rfl, by (show Ext _ _; repeat first | (with_reducible first | (refine xH ?_; assumption) | exact xR _ | refine xX ?_ _ | refine xA ?_ _) | refine xD ?_ | refine xN ?_ _ | exact xR _)⟩
 have h1i : ¬ (100 : Int) < (qn : Int) := by omega
 have h1j : (qn : Int) ≤ 100 := by omega
 have h1d : decide ((100 : Int) < (qn : Int)) = false := decide_eq_false h1i
 have HQ2 := hid (show qn ≤ 100 by omega)
 clear h1
 by_cases h2 : time < -1125899906842624
 ·have h2d : decide (time < -1125899906842624) = true := decide_eq_true h2
  go_enter Tryd.func3, Tryd.ntmps3
  go_wp2_with fail
  refine (awake26_any (HS.out.of (by (show Ext _ _; repeat first | (with_reducible first | (refine xH ?_; assumption) | exact xR _ | refine xX ?_ _ | refine xA ?_ _) | refine xD ?_ | refine xN ?_ _ | exact xR _)))).mono ?_
  rintro e w6 ⟨rfl, r6, rfl⟩
  go_wp2_with fail
  go_ret
  exact ⟨rfl, by (show Ext _ _; repeat first | (with_reducible first | (refine xH ?_; assumption) | exact xR _ | refine xX ?_ _ | refine xA ?_ _) | refine xD ?_ | refine xN ?_ _ | exact xR _)⟩
 have h2i : (-1125899906842624 : Int) ≤ time := by omega
 have h2d : decide (time < -1125899906842624) = false := decide_eq_false h2
 by_cases h3 : 1125899906842624 < time
 ·have h3d : decide ((1125899906842624 : Int) < time) = true := decide_eq_true h3
  go_enter Tryd.func3, Tryd.ntmps3
  go_wp2_with fail
  refine (awake26_any (HS.out.of (by (show Ext _ _; repeat first | (with_reducible first | (refine xH ?_; assumption) | exact xR _ | refine xX ?_ _ | refine xA ?_ _) | refine xD ?_ | refine xN ?_ _ | exact xR _)))).mono ?_
  rintro e w6 ⟨rfl, r6, rfl⟩
  go_wp2_with fail
  go_ret
  exact ⟨rfl, by (show Ext _ _; repeat first | (with_reducible first | (refine xH ?_; assumption) | exact xR _ | refine xX ?_ _ | refine xA ?_ _) | refine xD ?_ | refine xN ?_ _ | exact xR _)⟩
 have h3i : time ≤ 1125899906842624 := by omega
 have h3d : decide ((1125899906842624 : Int) < time) = false := decide_eq_false h3
 have HT := hid (show -1125899906842624 ≤ time ∧ time ≤ 1125899906842624 from ⟨h2i, h3i⟩)
 have hmm := @run_makeMap Tryd.prog
 go_enter Tryd.func3, Tryd.ntmps3
 go_wp2_with fail
 generalize hV_ : World.alloc _ _ = V
 have HE_V := hid (show Ext w V by rw [← hV_]; (show Ext _ _; repeat first | (with_reducible first | (refine xH ?_; assumption) | exact xR _ | refine xX ?_ _ | refine xA ?_ _) | refine xD ?_ | refine xN ?_ _ | exact xR _))
 have HB_b4 := hid (show Blk V (w.heap.size) [.bool sa0, .bool sb0, .bool sc0] by rw [← hV_]; (show Blk _ _ _; repeat first | (with_reducible first | (refine xH ?_; assumption) | refine bD ?_ | refine bX ?_ _) | (with_reducible refine bN _ _ rfl ?_; first | with_reducible rfl | (simp; done)) | (with_reducible first | refine bA ?_ _ | assumption | apply bS) | (with_reducible refine bO ?_ ?_; first | omega | (simp; omega)) | (show List.set _ _ _ = _; exact rfl) | (show _ < List.length _; simp; done)))
 have HB_b7 := hid (show Blk V (w.heap.size + 1) [.bool sa0, .bool sb0, .bool sc0] by rw [← hV_]; (show Blk _ _ _; repeat first | (with_reducible first | (refine xH ?_; assumption) | refine bD ?_ | refine bX ?_ _) | (with_reducible refine bN _ _ rfl ?_; first | with_reducible rfl | (simp; done)) | (with_reducible first | refine bA ?_ _ | assumption | apply bS) | (with_reducible refine bO ?_ ?_; first | omega | (simp; omega)) | (show List.set _ _ _ = _; exact rfl) | (show _ < List.length _; simp; done)))
 clear hV_
 obtain ⟨b7, hg_b7⟩ : ∃ g, g = w.heap.size + 1 := ⟨_, rfl⟩
 simp only [← hg_b7] at HB_b7 ⊢
 obtain ⟨b4, hg_b4⟩ : ∃ g, g = w.heap.size := ⟨_, rfl⟩
 simp only [← hg_b4] at HB_b4 ⊢
 have HN_V := hid (show b4 = w.heap.size ∧ b7 = w.heap.size + 1 ∧ b7 < V.heap.size from ⟨hg_b4, hg_b7, HB_b7.out.1⟩)
 clear hg_b4 hg_b7
 refine (start26_any (HS.out.of HE_V.out) time (three_sl HB_b7.out) three_le).mono ?_
 rintro e w1 ⟨v1, rfl, he, hv⟩
 have HE_1 := hid (Ext.trans HE_V.out he)
 have HBt := hid (HB_b7.out.of he)
 clear he HB_b4 HB_b7
 obtain ⟨pa, va, fa, la, sa, ta, ba, pn, pc, vn, vc, fn, fc, ln, lc, sn, sc, tn, tc, bn, bc, rfl, hw⟩ := hv
 have HW := hid (WR.imp (P' := fun b => w.heap.size ≤ b) hw (fun b h => Nat.le_trans HE_V.out.size h))
 clear hw
 go_upto_region 8 with fail
 generalize hV_ : World.alloc _ _ = X
 have HE_X := hid (HE_1.out.trans (show Ext w1 X by rw [← hV_]; (show Ext _ _; repeat first | (with_reducible first | (refine xH ?_; assumption) | exact xR _ | refine xX ?_ _ | refine xA ?_ _) | refine xD ?_ | refine xN ?_ _ | exact xR _)))
 have HB_b8 := hid (show Blk X (w1.heap.size) [.slice pa pn pc, .slice va vn vc, .slice fa fn fc, .slice la ln lc, .map none, .slice sa sn sc, .int .i64 0, .slice ta tn tc, .slice ba bn bc] by rw [← hV_]; (show Blk _ _ _; repeat first | (with_reducible first | (refine xH ?_; assumption) | refine bD ?_ | refine bX ?_ _) | (with_reducible refine bN _ _ rfl ?_; first | with_reducible rfl | (simp; done)) | (with_reducible first | refine bA ?_ _ | assumption | apply bS) | (with_reducible refine bO ?_ ?_; first | omega | (simp; omega)) | (show List.set _ _ _ = _; exact rfl) | (show _ < List.length _; simp; done)))
 have HM_X := hid (show Met26 X (w1.heap.size + 1) 0 (fun _ => false) by rw [← hV_]; exact MapF.made _ _ _ (by simp))
 have HX1 := hid (show Ext w1 X by rw [← hV_]; (show Ext _ _; repeat first | (with_reducible first | (refine xH ?_; assumption) | exact xR _ | refine xX ?_ _ | refine xA ?_ _) | refine xD ?_ | refine xN ?_ _ | exact xR _))
 clear hV_
 obtain ⟨mb, hg_mb⟩ : ∃ g, g = w1.heap.size + 1 := ⟨_, rfl⟩
 simp only [← hg_mb] at HM_X ⊢
 obtain ⟨b8, hg_b8⟩ : ∃ g, g = w1.heap.size := ⟨_, rfl⟩
 simp only [← hg_b8] at HB_b8 ⊢
 have HNX := hid (show w.heap.size ≤ w1.heap.size ∧ b8 = w1.heap.size ∧ mb = b8 + 1 ∧ mb < X.heap.size from ⟨HE_1.out.size, hg_b8, by rw [hg_mb, hg_b8], MapF.lt _ HM_X.out⟩)
 have HNB := hid (show w1.heap.size ≤ b8 ∧ b8 < X.heap.size ∧ b7 ≠ b8 ∧ b7 ≠ mb ∧ w.heap.size ≤ b8 ∧ mb ≠ b8 by
  have h1 := HNX.out
  have h2 := HBt.out.1
  omega)
 have HNM := hid (show ¬ ((w.heap.size ≤ mb ∧ mb < w1.heap.size) ∨ X.heap.size ≤ mb) ∧ w.heap.size ≤ mb by
  have h1 := HNX.out
  omega)
 have HBt7 := hid (HBt.out.of HX1.out)
 clear hg_mb hg_b8
 clear h1i h1j h1d h2 h2i h2d h3 h3i h3d
 go_wp2_with fail
 go_loopw [10, 58] (fun d_ i_ wr => ∃ (j : Nat), j ≤ qn ∧ i_ = .int .i64 j ∧ ∃ (pa1 va1 fa1 la1 sa1 ta1 ba1 : Option Addr) (pn1 pc1 vn1 vc1 fn1 fc1 ln1 lc1 sn1 sc1 tn1 tc1 bn1 bc1 : Nat) (m : Mc) (ts : List (Tk ckK.C)) (bs : List Bool) (cv : Int) (n : Nat) (f : Int → Bool) (dv : Int), d_ = .int .i64 dv ∧ Hid (dv = cv - time) ∧ Hid (Blk wr b8 [.slice pa1 pn1 pc1, .slice va1 vn1 vc1, .slice fa1 fn1 fc1, .slice la1 ln1 lc1, .map none, .slice sa1 sn1 sc1, .int .i64 0, .slice ta1 tn1 tc1, .slice ba1 bn1 bc1]) ∧ Hid (Blk wr b7 [.bool sa0, .bool sb0, .bool sc0]) ∧ Hid (WR ckK wr (fun b => (w.heap.size ≤ b ∧ b < w1.heap.size) ∨ X.heap.size ≤ b) (.slice pa1 pn1 pc1) (.slice va1 vn1 vc1) (.slice fa1 fn1 fc1) (.slice la1 ln1 lc1) (.slice sa1 sn1 sc1) (.slice ta1 tn1 tc1) (.slice ba1 bn1 bc1) m ts bs) ∧ Hid (Gr2 b8 mb X wr ∧ Ext w wr) ∧ Hid ((Met26 wr mb n f ∧ n ≤ j) ∧ ∀ x, f x = decide (time + 1 ≤ x ∧ x ≤ cv)) ∧ Hid (G26 m (cv, 0, 0) j ∧ Inv time cv [sa0, sb0, sc0] ts j ∧ bs.length = 3)) (fun _ i_ _ => qn - (intOf i_).toNat)
 case atStart =>
  refine ⟨0, Nat.zero_le _, rfl, pa, va, fa, la, sa, ta, ba, pn, pc, vn, vc, fn, fc, ln, lc, sn, sc, tn, tc, bn, bc, _, _, _, time, 0, _, 0, rfl, hid (by rw [Int.sub_self]), HB_b8, HBt7, hid (WR.imp (WR.of HW.out.bnd HX1.out) (fun b hb => .inl hb)), hid ⟨Gr2.refl, HE_X.out⟩, hid ⟨⟨HM_X.out, Nat.le_refl _⟩, met_start time⟩, hid ⟨mc26_good time, Inv.start time [sa0, sb0, sc0] rfl HT.out, rfl⟩⟩
 case round =>
  clear HB_b8 HW HM_X HBt7
  obtain ⟨j, hjn, rfl, pa1, va1, fa1, la1, sa1, ta1, ba1, pn1, pc1, vn1, vc1, fn1, fc1, ln1, lc1, sn1, sc1, tn1, tc1, bn1, bc1, m, ts, bs, cv, n, f, dv, rfl, HD, HB, HB7r, HW, HG, HMt, HI⟩ := hrel
  have HJn := hid hjn
  clear hjn
  have HEr := hid HG.out.2
  by_cases hjm : j < qn
  ·exact absurd hjm (by have h1 := HQ.out; have h2 := HL0.out; rw [h2] at h1; simp at h1; omega)
  ·have hjm2 : ¬ (j : Int) < (qn : Int) := fun h => hjm (by omega)
   have hjm3 : (qn : Int) ≤ (j : Int) := by omega
   clear hjm
   have hts : ts.length = 3 := HI.out.2.1.len
   obtain rfl : tn1 = 3 := tn_three HW.out.2.1 HI.out.2.1
   obtain ⟨k0_, hk0_⟩ := get3 hts (j := 0) (by decide)
   obtain ⟨r0_, tbb, tbo, hta, -, -, -, -⟩ := HW.out.2.1.at hk0_
   subst hta
   clear hk0_ r0_ k0_
   have HTl := hid hts
   clear hts
   have f0 := (HB.out).2.2 0 _ rfl
   have f1 := (HB.out).2.2 1 _ rfl
   have f2 := (HB.out).2.2 2 _ rfl
   have f3 := (HB.out).2.2 3 _ rfl
   have f4 := (HB.out).2.2 4 _ rfl
   have f5 := (HB.out).2.2 5 _ rfl
   have f6 := (HB.out).2.2 6 _ rfl
   have f7 := (HB.out).2.2 7 _ rfl
   have f8 := (HB.out).2.2 8 _ rfl
   have ff := (HB.out).2.1
   have fg := (HB.out).1
   clear f0 f1 f2 f3 f4 f5 f6 f8 ff
   go_wp2_with fail
   clear f7 fg
   obtain ⟨U, hU⟩ : ∃ U, U = wr := ⟨_, rfl⟩
   have HUe := hid (show Ext U wr by rw [hU]; exact Ext.refl _)
   have HWU := hid (show WR ckK U (fun b => (w.heap.size ≤ b ∧ b < w1.heap.size) ∨ X.heap.size ≤ b) (.slice pa1 pn1 pc1) (.slice va1 vn1 vc1) (.slice fa1 fn1 fc1) (.slice la1 ln1 lc1) (.slice sa1 sn1 sc1) (.slice (some ⟨tbb, tbo, none⟩) 3 tc1) (.slice ba1 bn1 bc1) m ts bs by rw [hU]; exact HW.out)
   have HB7U := hid (show Blk U b7 [.bool sa0, .bool sb0, .bool sc0] by rw [hU]; exact HB7r.out)
   have HwU2 := hid (show Ext w U by rw [hU]; exact HEr.out)
   clear hU HW HB HG HEr HMt HB7r
   go_loopw [188] (fun i_ wr => ∃ (j2 : Nat), j2 ≤ 3 ∧ i_ = .int .i64 j2 ∧ Hid (Ext U wr)) (fun i_ _ => 3 - (intOf i_).toNat)
   case atStart => exact ⟨0, by decide, rfl, HUe⟩
   case round =>
    clear HUe
    obtain ⟨j2, hj2, rfl, HE2⟩ := hrel
    by_cases hjm : j2 < 3
    ·have hjm2 : (j2 : Int) < 3 := lt_int hjm
     obtain ⟨k, hk⟩ := get3 HTl.out hjm
     obtain ⟨tick, htk⟩ : ∃ t, [sa0, sb0, sc0][j2]? = some t := get3 rfl hjm
     obtain ⟨jq, hjq⟩ : ∃ x, x = j2 + 1 := ⟨_, rfl⟩
     have hwq := wq3 (Nat.lt_trans hjm (by decide)) hjq
     have HJm := hid hjm
     have HJq := hid hjq
     have HTS := hid htk
     have hti : TI time cv tick k := HI.out.2.1.all j2 k tick hk htk
     have HW2 := hid (HWU.out.of HE2.out)
     have HF := hid hti.forms
     clear hti hjm hjq htk
     rcases HF.out with ⟨st, tm, ai, g, rfl, hst3, hg1⟩ | ⟨tm, ai, g, rfl, hg1⟩
     ·clear HF
      obtain ⟨tb, to_, p1, p2, p3, p4, p5, p6, p7, p8, ga, gc, hta, hx⟩ := task_under HW2.out.2.1 hk rfl
      obtain ⟨rfl, rfl⟩ : tbb = tb ∧ tbo = to_ := by simpa using hta
      have hgl := fun h => gl_le (hg1 h)
      obtain ⟨gn, hgn⟩ : ∃ n, n = g.length := ⟨_, rfl⟩
      rw [← hgn] at hx hgl
      have HX := hid hx
      have HGL := hid hgl
      clear hta hk hx hgn hg1 hgl
      obtain ⟨htb, x0, x1, x2, x3, x4, x5, x6, x7, x8, x9, x10⟩ := (HX.out).open
      go_upto_region 30 with fail
      generalize hV_ : World.alloc _ _ = U2
      have HE_U2 := hid (show Ext wr U2 by rw [← hV_]; (show Ext _ _; repeat first | (with_reducible first | (refine xH ?_; assumption) | exact xR _ | refine xX ?_ _ | refine xA ?_ _) | refine xD ?_ | refine xN ?_ _ | exact xR _))
      have HB_b25 := hid (show Blk U2 (wr.heap.size) [(.iface ckT (.agg #[.int .i64 0, .bool tick, .int .i64 st, .int .i64 tm])), (.func (.method "Next") #[.iface ckT (.agg #[.int .i64 0, .bool tick, .int .i64 st, .int .i64 tm])] #[]), .int .i64 p1, .int .i64 p2, .int .i64 p3, .int .u32 p4, .int .u32 p5, .int .i64 p6, .int .u32 p7, .int .u32 p8, .slice ga gn gc] by rw [← hV_]; (show Blk _ _ _; repeat first | (with_reducible first | (refine xH ?_; assumption) | refine bD ?_ | refine bX ?_ _) | (with_reducible refine bN _ _ rfl ?_; first | with_reducible rfl | (simp; done)) | (with_reducible first | refine bA ?_ _ | assumption | apply bS) | (with_reducible refine bO ?_ ?_; first | omega | (simp; omega)) | (show List.set _ _ _ = _; exact rfl) | (show _ < List.length _; simp; done)))
      clear hV_
      obtain ⟨b25, hg_b25⟩ : ∃ g, g = wr.heap.size := ⟨_, rfl⟩
      simp only [← hg_b25] at HB_b25 ⊢
      have HN_U2 := hid (show b25 = wr.heap.size ∧ b25 < U2.heap.size from ⟨hg_b25, HB_b25.out.1⟩)
      clear hg_b25
      clear x0 x1 x2 x3 x4 x5 x6 x7 x8 x9 x10 htb
      obtain ⟨x0, x1, x2, x3, x4, x5, x6, x7, x8, x9, x10⟩ := Blk.at11 HB_b25.out
      have xg := HB_b25.out.1
      go_wp2_with fail
      refine (tcode_any (.iface ckT (.agg #[.int .i64 0, .bool tick, .int .i64 st, .int .i64 tm])) (.func (.method "Next") #[.iface ckT (.agg #[.int .i64 0, .bool tick, .int .i64 st, .int .i64 tm])] #[]) ⟨p1, p2, (p3, p4, p5), (p6, p7, p8)⟩ ga gn gc _).mono ?_
      rintro e w5 ⟨rfl, r5, hr5⟩
      have HE5 := hid (show Ext U2 w5 from ⟨r5, hr5⟩)
      clear hr5 x0 x1 x2 x3 x4 x5 x6 x7 x8 x9 x10 xg
      go_wp2_with fail
      refine (ctime_under 0 tick st tm hst3 _).mono ?_
      rintro e w6 ⟨rfl, r6, hr6⟩
      have HE6 := hid (show Ext U2 w6 from HE5.out.trans ⟨r6, hr6⟩)
      clear hr6
      obtain ⟨x0, x1, x2, x3, x4, x5, x6, x7, x8, x9, x10⟩ := Blk.at11 (HB_b25.out.of HE6.out)
      have xg := (HB_b25.out.of HE6.out).1
      go_wp2_with fail
      refine (tdone_any (.iface ckT (.agg #[.int .i64 0, .bool tick, .int .i64 st, .int .i64 tm])) (.func (.method "Next") #[.iface ckT (.agg #[.int .i64 0, .bool tick, .int .i64 st, .int .i64 tm])] #[]) false (.inr ⟨rfl, _, _, _, rfl⟩) ⟨p1, p2, (p3, p4, p5), (p6, p7, p8)⟩ ga gn gc _).mono ?_
      rintro e w7 ⟨rfl, r7, hr7⟩
      have HE7 := hid (show Ext U2 w7 from HE6.out.trans ⟨r7, hr7⟩)
      clear hr7 x0 x1 x2 x3 x4 x5 x6 x7 x8 x9 x10 xg
      have hb_ := HB7U.out.of (HE2.out.trans (HE_U2.out.trans HE7.out))
      have htt := hb_.bool_at HTS.out
      have hw0 := hb_.1
      clear hb_
      cases tick
      ·have hgl := HGL.out rfl
       obtain ⟨hgl1, hgl2⟩ := hgl
       obtain ⟨x0, x1, x2, x3, x4, x5, x6, x7, x8, x9, x10⟩ := Blk.at11 (HB_b25.out.of HE7.out)
       have xg := (HB_b25.out.of HE7.out).1
       go_wp2_with fail
       refine (tsteps_any (.iface ckT (.agg #[.int .i64 0, .bool false, .int .i64 st, .int .i64 tm])) (.func (.method "Next") #[.iface ckT (.agg #[.int .i64 0, .bool false, .int .i64 st, .int .i64 tm])] #[]) ⟨p1, p2, (p3, p4, p5), (p6, p7, p8)⟩ ga gn gc _).mono ?_
       rintro e w8 ⟨rfl, r8, hr8⟩
       have HE8 := hid (show Ext U2 w8 from HE7.out.trans ⟨r8, hr8⟩)
       clear hr8 x0 x1 x2 x3 x4 x5 x6 x7 x8 x9 x10 xg htt hw0
       go_wp2_with fail
       go_roundw
       case rel => exact ⟨jq, le_next HJm.out HJq.out, by first | exact slot_next HJq.out | exact slot_next' hwq | rfl, hid (HE2.out.trans (HE_U2.out.trans HE8.out))⟩
       case measure => first | exact meas_next2 HJm.out HJq.out | exact meas_next3 hwq HJm.out HJq.out | exact meas_next HJm.out HJq.out
      ·go_wp2_with fail
       go_roundw
       case rel => exact ⟨jq, le_next HJm.out HJq.out, by first | exact slot_next HJq.out | exact slot_next' hwq | rfl, hid (HE2.out.trans (HE_U2.out.trans HE7.out))⟩
       case measure => first | exact meas_next2 HJm.out HJq.out | exact meas_next3 hwq HJm.out HJq.out | exact meas_next HJm.out HJq.out
     ·clear HF
      obtain ⟨tb, to_, ga, gc, hta, hx⟩ := task_over HW2.out.2.1 hk rfl
      obtain ⟨rfl, rfl⟩ : tbb = tb ∧ tbo = to_ := by simpa using hta
      have hgl := fun h => gl_le (hg1 h)
      obtain ⟨gn, hgn⟩ : ∃ n, n = g.length := ⟨_, rfl⟩
      rw [← hgn] at hx hgl
      have HX := hid hx
      have HGL := hid hgl
      clear hta hk hx hgn hg1 hgl
      obtain ⟨htb, x0, x1, x2, x3, x4, x5, x6, x7, x8, x9, x10⟩ := (HX.out).open
      go_upto_region 30 with fail
      generalize hV_ : World.alloc _ _ = U2
      have HE_U2 := hid (show Ext wr U2 by rw [← hV_]; (show Ext _ _; repeat first | (with_reducible first | (refine xH ?_; assumption) | exact xR _ | refine xX ?_ _ | refine xA ?_ _) | refine xD ?_ | refine xN ?_ _ | exact xR _))
      have HB_b25 := hid (show Blk U2 (wr.heap.size) [(.iface ckT (.agg #[.int .i64 0, .bool tick, .int .i64 3, .int .i64 tm])), .nilFunc, .int .i64 0, .int .i64 0, .int .i64 0, .int .u32 0, .int .u32 0, .int .i64 0, .int .u32 0, .int .u32 0, .slice ga gn gc] by rw [← hV_]; (show Blk _ _ _; repeat first | (with_reducible first | (refine xH ?_; assumption) | refine bD ?_ | refine bX ?_ _) | (with_reducible refine bN _ _ rfl ?_; first | with_reducible rfl | (simp; done)) | (with_reducible first | refine bA ?_ _ | assumption | apply bS) | (with_reducible refine bO ?_ ?_; first | omega | (simp; omega)) | (show List.set _ _ _ = _; exact rfl) | (show _ < List.length _; simp; done)))
      clear hV_
      obtain ⟨b25, hg_b25⟩ : ∃ g, g = wr.heap.size := ⟨_, rfl⟩
      simp only [← hg_b25] at HB_b25 ⊢
      have HN_U2 := hid (show b25 = wr.heap.size ∧ b25 < U2.heap.size from ⟨hg_b25, HB_b25.out.1⟩)
      clear hg_b25
      clear x0 x1 x2 x3 x4 x5 x6 x7 x8 x9 x10 htb
      obtain ⟨x0, x1, x2, x3, x4, x5, x6, x7, x8, x9, x10⟩ := Blk.at11 HB_b25.out
      have xg := HB_b25.out.1
      go_wp2_with fail
      refine (tcode_any (.iface ckT (.agg #[.int .i64 0, .bool tick, .int .i64 3, .int .i64 tm])) .nilFunc ⟨0, 0, (0, 0, 0), (0, 0, 0)⟩ ga gn gc _).mono ?_
      rintro e w5 ⟨rfl, r5, hr5⟩
      have HE5 := hid (show Ext U2 w5 from ⟨r5, hr5⟩)
      clear hr5 x0 x1 x2 x3 x4 x5 x6 x7 x8 x9 x10 xg
      go_wp2_with fail
      refine (ctime_over 0 tick tm _).mono ?_
      rintro e w6 ⟨rfl, r6, hr6⟩
      have HE6 := hid (show Ext U2 w6 from HE5.out.trans ⟨r6, hr6⟩)
      clear hr6
      obtain ⟨x0, x1, x2, x3, x4, x5, x6, x7, x8, x9, x10⟩ := Blk.at11 (HB_b25.out.of HE6.out)
      have xg := (HB_b25.out.of HE6.out).1
      go_wp2_with fail
      refine (tdone_any (.iface ckT (.agg #[.int .i64 0, .bool tick, .int .i64 3, .int .i64 tm])) .nilFunc true (.inl ⟨rfl, rfl⟩) ⟨0, 0, (0, 0, 0), (0, 0, 0)⟩ ga gn gc _).mono ?_
      rintro e w7 ⟨rfl, r7, hr7⟩
      have HE7 := hid (show Ext U2 w7 from HE6.out.trans ⟨r7, hr7⟩)
      clear hr7 x0 x1 x2 x3 x4 x5 x6 x7 x8 x9 x10 xg
      have hb_ := HB7U.out.of (HE2.out.trans (HE_U2.out.trans HE7.out))
      have htt := hb_.bool_at HTS.out
      have hw0 := hb_.1
      clear hb_
      cases tick
      ·have hgl := HGL.out rfl
       obtain ⟨hgl1, hgl2⟩ := hgl
       obtain ⟨x0, x1, x2, x3, x4, x5, x6, x7, x8, x9, x10⟩ := Blk.at11 (HB_b25.out.of HE7.out)
       have xg := (HB_b25.out.of HE7.out).1
       go_wp2_with fail
       refine (tsteps_any (.iface ckT (.agg #[.int .i64 0, .bool false, .int .i64 3, .int .i64 tm])) .nilFunc ⟨0, 0, (0, 0, 0), (0, 0, 0)⟩ ga gn gc _).mono ?_
       rintro e w8 ⟨rfl, r8, hr8⟩
       have HE8 := hid (show Ext U2 w8 from HE7.out.trans ⟨r8, hr8⟩)
       clear hr8 x0 x1 x2 x3 x4 x5 x6 x7 x8 x9 x10 xg htt hw0
       go_wp2_with fail
       go_roundw
       case rel => exact ⟨jq, le_next HJm.out HJq.out, by first | exact slot_next HJq.out | exact slot_next' hwq | rfl, hid (HE2.out.trans (HE_U2.out.trans HE8.out))⟩
       case measure => first | exact meas_next2 HJm.out HJq.out | exact meas_next3 hwq HJm.out HJq.out | exact meas_next HJm.out HJq.out
      ·go_wp2_with fail
       go_roundw
       case rel => exact ⟨jq, le_next HJm.out HJq.out, by first | exact slot_next HJq.out | exact slot_next' hwq | rfl, hid (HE2.out.trans (HE_U2.out.trans HE7.out))⟩
       case measure => first | exact meas_next2 HJm.out HJq.out | exact meas_next3 hwq HJm.out HJq.out | exact meas_next HJm.out HJq.out
    ·have hj3 : j2 = 3 := eq3 hj2 hjm
     subst hj3
     clear hjm
     go_wp2_with fail
     refine (awake26_any (HS.out.of (HwU2.out.trans HE2.out))).mono ?_
     rintro e w9 ⟨rfl, he9⟩
     have HE9 := hid ((HwU2.out.trans HE2.out).trans he9)
     clear he9
     go_wp2_with fail
     go_ret
     exact ⟨rfl, HE9.out⟩
end Go.Proofs.YtadilekaombofaaDoor
