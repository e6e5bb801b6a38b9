/- The walk of the statement RedoAsks. -/
import Derived.Test.YtdpbcfjfnclpiaaDoorPk43
import Derived.Test.YtdpbcfjfnclpiaaDoorPk47
namespace Go.Proofs.YtdpbcfjfnclpiaaDoor
set_option linter.unusedSimpArgs false
set_option linter.unusedVariables false
open Go.RowKit
def Gr2 (a b : Nat) (w w' : World) : Prop := w.heap.size ≤ w'.heap.size ∧ ∀ j, j < w.heap.size → j ≠ a → j ≠ b → w'.heap[j]? = w.heap[j]?
section
variable {a b : Nat} {w w' : World}
theorem Gr2.refl : Gr2 a b w w := ⟨Nat.le_refl _, fun _ _ _ _ => rfl⟩
theorem Gr2.ext (h : Gr2 a b w w') (r : Xt) : Gr2 a b w (ext w' r) := ⟨by rw [size_ext]; exact Nat.le_trans h.1 (Nat.le_add_right _ _), fun j hj h1 h2 => (heap_ext w' r j (Nat.lt_of_lt_of_le hj h.1)).trans (h.2 j hj h1 h2)⟩
theorem Gr2.of (h : Gr2 a b w w') {w2 : World} (he : Ext w' w2) : Gr2 a b w w2 := by obtain ⟨r, rfl⟩ := he; exact h.ext r
theorem Gr2.alloc (h : Gr2 a b w w') (o : Obj) : Gr2 a b w (w'.alloc o) := h.of (Ext.of_alloc _ _)
theorem Gr2.drew (h : Gr2 a b w w') : Gr2 a b w w'.drew := h
theorem Gr2.setL (h : Gr2 a b w w') (i : Nat) (u : Value) : Gr2 a b w (w'.setCell ⟨a, i, none⟩ u) := ⟨by rw [World.size_setCell]; exact h.1, fun j hj h1 h2 => (Below.heap_setCell w' _ u j (by dsimp only; omega)).trans (h.2 j hj h1 h2)⟩
theorem Gr2.setR (h : Gr2 a b w w') (i : Nat) (u : Value) : Gr2 a b w (w'.setCell ⟨b, i, none⟩ u) := ⟨by rw [World.size_setCell]; exact h.1, fun j hj h1 h2 => (Below.heap_setCell w' _ u j (by dsimp only; omega)).trans (h.2 j hj h1 h2)⟩
theorem Gr2.cell (h : Gr2 a b w w') {n i : Nat} (h1 : n ≠ a) (h2 : n ≠ b) {v : Value} (hc : w.cell? ⟨n, i, none⟩ = some v) : w'.cell? ⟨n, i, none⟩ = some v := by
 rw [World.cell?_of_block (w := w) (h.2 n (World.block_lt_of_cell? w _ hc) h1 h2)]; exact hc
end
def s0 : RS := ⟨0, 0, 0, (0, 0, 0), [], []⟩
set_option maxRecDepth 100000 in
set_option maxHeartbeats 4000000 in
theorem reda_any (gv : Value) (l : List Gt) (w : World) (hs : Szs w) (hg : Sl w 4 gtE gv l) (hok : ∀ a ∈ l, WdOk a.1) :
 Calls Tryd.prog 3 #[gv] w fun y w' => y = .returned (.bool true) ∧ ∃ r, w' = ext w r := by
 have HS := hid hs
 have HG := hid hg
 have HO := hid hok
 obtain ⟨a, cp, rfl, hq1, hq2⟩ := hg
 clear hq1 hq2 hs hok
 by_cases hbig : (300 : Int) < (l.length : Int)
 ·go_enter Tryd.func3, Tryd.ntmps3
  go_wp2_with fail
  refine (awake25_any _ (HS.out.of (by (show Ext _ _; repeat first | (with_reducible first | (refine xH ?_; assumption) | exact xR _ | refine xX ?_ _ | refine xA ?_ _) | refine xD ?_ | refine xN ?_ _ | exact xR _)))).mono ?_
  rintro e w' ⟨rfl, r1, rfl⟩
  go_wp2_with fail
  go_ret
  exact ⟨rfl, by (show Ext _ _; repeat first | (with_reducible first | (refine xH ?_; assumption) | exact xR _ | refine xX ?_ _ | refine xA ?_ _) | refine xD ?_ | refine xN ?_ _ | exact xR _)⟩
 have hen := eq_code_nil
 go_enter Tryd.func3, Tryd.ntmps3
 go_wp2_with fail
 refine (awake25_any _ (HS.out.of (by (show Ext _ _; repeat first | (with_reducible first | (refine xH ?_; assumption) | exact xR _ | refine xX ?_ _ | refine xA ?_ _) | refine xD ?_ | refine xN ?_ _ | exact xR _)))).mono ?_
 rintro e w' ⟨rfl, r1, rfl⟩
 go_wp2_with fail
 obtain ⟨b3, hb3⟩ : ∃ b3, b3 = w.heap.size + r1.new.size := ⟨_, rfl⟩
 generalize hA : World.alloc _ _ = A
 have HEA := hid (show Ext w A by rw [← hA]; (show Ext _ _; repeat first | (with_reducible first | (refine xH ?_; assumption) | exact xR _ | refine xX ?_ _ | refine xA ?_ _) | refine xD ?_ | refine xN ?_ _ | exact xR _))
 have HB3 := hid (show Blk A b3 [.int .i64 1, .int .i64 3, .int .i64 1] by rw [← hA, hb3]; exact Blk.new _ _ rfl (by simp))
 rw [← hb3]
 clear hA hb3
 refine (kind131_any _ (HS.out.of HEA.out)).mono ?_
 rintro e w' ⟨pv, mv, sv, ov, rfl, ⟨r2, rfl⟩, k1, k2, k3, k4⟩
 obtain ⟨pa, pc, hpv, _, _⟩ := id k1
 obtain ⟨ma, mc, hmv, _, _⟩ := id k2
 obtain ⟨qa, qc, hsv, _, _⟩ := id k3
 obtain ⟨oa, oc, hov, _, _⟩ := id k4
 subst hpv hmv hsv hov
 have HK1 := hid k1
 have HK2 := hid k2
 have HK3 := hid k3
 have HK4 := hid k4
 obtain ⟨nm, hnm⟩ : ∃ n, n = (maysL 1 3 1).length := ⟨_, rfl⟩
 obtain ⟨ns, hns⟩ : ∃ n, n = (statsL 1 3 1).length := ⟨_, rfl⟩
 obtain ⟨no, hno⟩ : ∃ n, n = (ownsL 1 3 1).length := ⟨_, rfl⟩
 obtain ⟨np, hnp⟩ : ∃ n, n = (mayL 1 3 1 176).length := ⟨_, rfl⟩
 rw [← hnm, ← hns, ← hno, ← hnp]
 rw [← hnp] at HK1
 rw [← hnm] at HK2
 rw [← hns] at HK3
 rw [← hno] at HK4
 have HNm := hid hnm
 have HNs := hid hns
 have HNo := hid hno
 clear k1 k2 k3 k4 hnm hns hno hnp
 generalize hB : ext A r2 = B at HK1 HK2 HK3 HK4 ⊢
 have HEB := hid (show Ext A B by rw [← hB]; exact ⟨r2, rfl⟩)
 obtain ⟨l0, l1, l2⟩ := (HB3.out.of HEB.out).three
 have l3 := (HB3.out.of HEB.out).1
 clear hB
 go_wp2_with fail
 obtain ⟨b4, hb4⟩ : ∃ b4, b4 = B.heap.size := ⟨_, rfl⟩
 generalize hC : World.alloc _ _ = C
 have HEC := hid (show Ext B C by rw [← hC]; (show Ext _ _; repeat first | (with_reducible first | (refine xH ?_; assumption) | exact xR _ | refine xX ?_ _ | refine xA ?_ _) | refine xD ?_ | refine xN ?_ _ | exact xR _))
 have HB4 := hid (show Blk C b4 [.int .i64 1, .int .i64 1, .int .i64 32, .int .i64 144, .int .i64 104, .int .i64 32, .slice pa np pc, .int .i64 176, .slice ma nm mc, .slice qa ns qc, .slice oa no oc] by rw [← hC, hb4]; exact Blk.new _ _ rfl rfl)
 rw [← hb4]
 have HwC := hid (show Ext w C from HEA.out.trans (HEB.out.trans HEC.out))
 clear hC hb4 l0 l1 l2 l3
 refine (rnew_full 1 3 1 check131 w C HwC.out (HS.out.of HwC.out)).mono ?_
 rintro e D ⟨cv, rfl, hCD, hcw⟩
 have HCD := hid hCD
 have HCw := hid hcw
 have HwD := hid (HwC.out.trans hCD)
 have HD4 := hid (HB4.out.of hCD)
 clear hCD hcw
 have m0 := HD4.out.2.2 0 _ rfl
 have m1 := HD4.out.2.2 1 _ rfl
 have m2 := HD4.out.2.2 2 _ rfl
 have m3 := HD4.out.2.2 3 _ rfl
 have m4 := HD4.out.2.2 4 _ rfl
 have m5 := HD4.out.2.2 5 _ rfl
 have m6 := HD4.out.2.2 6 _ rfl
 have m7 := HD4.out.2.2 7 _ rfl
 have m8 := HD4.out.2.2 8 _ rfl
 have m9 := HD4.out.2.2 9 _ rfl
 have m10 := HD4.out.2.2 10 _ rfl
 have mg := HD4.out.1
 have HKw := hid (show Kw D (.agg #[.int .i64 1, .int .i64 1, .int .i64 32, .int .i64 144, .int .i64 104, .int .i64 32, .slice pa np pc, .int .i64 176, .slice ma nm mc, .slice qa ns qc, .slice oa no oc]) K131 1 1 32 144 ((176 : Nat) : Int) (mayL 1 3 1 176) (.slice pa np pc) ma qa oa mc qc oc from by
  have hx := HEC.out.trans HCD.out
  refine ⟨?_, HK1.out.of boE_len hx, ?_, ?_, ?_⟩
  ·rw [HNm.out, HNs.out, HNo.out]; rfl
  ·have := HK2.out.of locE_len hx; rw [HNm.out] at this; exact this
  ·have := HK3.out.of locE_len hx; rw [HNs.out] at this; exact this
  ·have := HK4.out.of locE_len hx; rw [HNo.out] at this; exact this)
 have HRv0 := hid (show Rv D (.agg #[.int .i64 0, .int .i64 0, .int .i64 0, .int .i64 0, .int .u32 0, .int .u32 0, .slice none 0 0, .slice none 0 0]) s0 none none 0 0 from ⟨rfl, Sl.nil, Sl.nil, fun a h => (by cases h), fun a h => (by cases h)⟩)
 have hz0 : WdOk (0, 0, 0) := wdOk0 0 (by omega)
 have HN0 := hid (rn0_any HKw.out HRv0.out plok131 ⟨by show 0 ≤ _; omega, by show 0 ≤ _; omega, by show 0 ≤ _; omega, fun a h => (by cases h), hz0⟩ 0 0 0 false hz0 rfl)
 obtain ⟨r, hr⟩ : ∃ r, r = rNext K131 s0 (0, 0, 0) := ⟨_, rfl⟩
 rw [← hr] at HN0
 have HBo := hid (show Both K131 (c0 1 3 1) r from by rw [hr]; exact spin_word (c := c0 1 3 1) (s := s0) (by show 0 ≤ _; omega) ⟨rfl, rfl, rfl⟩ rfl rfl rfl rfl ⟨rfl, rfl, rfl⟩)
 have HKp := hid (show Kp s0 r.1 from by rw [hr]; exact next_kp K131 s0 _ hz0)
 clear hr hz0
 obtain ⟨⟨ph1, i1, j1, ⟨w1, w2, w3⟩, ld1, st1⟩, op1, at1, a3, a4, a5⟩ := r
 go_wp2_with (go_call HN0.out as e E ⟨v, la1, sa1, lc1, sc1, rfl, hv, hn1, hn2, he⟩; have hvv := hv.val; subst hvv; have HV1 := hid hv; have HNl := hid hn1; have HNs1 := hid hn2; have HDE := hid he; clear hv hn1 hn2 he; simp only [acE])
 obtain ⟨b7, hb7⟩ : ∃ b7, b7 = E.heap.size := ⟨_, rfl⟩
 generalize hF : World.alloc (World.alloc _ _) _ = F
 have HEF := hid (show Ext E F by rw [← hF]; (show Ext _ _; repeat first | (with_reducible first | (refine xH ?_; assumption) | exact xR _ | refine xX ?_ _ | refine xA ?_ _) | refine xD ?_ | refine xN ?_ _ | exact xR _))
 have HF7 := hid (show Blk F b7 (rsL ⟨ph1, i1, j1, (w1, w2, w3), ld1, st1⟩ la1 sa1 lc1 sc1) by rw [← hF, hb7]; exact (Blk.new _ _ rfl rfl).alloc _)
 have HF8 := hid (show Blk F (b7 + 1) (acE (op1, at1, (a3, a4, a5))) by rw [← hF, hb7]; exact Blk.new _ _ rfl (by simp))
 have HFs := hid (show F.heap.size = b7 + 2 by rw [← hF, hb7]; simp)
 have HE7 := hid (show E.heap.size = b7 from hb7.symm)
 rw [← hb7]
 clear hF hb7 m0 m1 m2 m3 m4 m5 m6 m7 m8 m9 m10 mg
 obtain ⟨n1, c1, hsp, hrel⟩ := HBo.out
 have HRel := hid hrel
 have HCi := hid (spin_inv hsp c0_inv)
 have HDF := hid (HDE.out.trans HEF.out)
 have HNx := hid (next_ok K131 kat131 (HS.out.of (HwD.out.trans HDF.out)) (fun k => k < b7) (c0 1 3 1) cv ((HCw.out.of HDF.out).imp (fun k h => by have h1 := HDE.out.size; have h2 := HE7.out; omega)) 0 0 0 false (fun h => by cases h) (by show 0 ≤ _; omega) c0_inv n1 c1 _ _ hsp)
 clear hsp hrel
 refine (tstart_any codeT_redo cv F F (Ext.refl _) (fun k h => by have := HFs.out; omega) HNx.out).mono ?_
 rintro e G ⟨cv1, a1', d1, rfl, hFG, hfoot⟩
 obtain ⟨rfl, rfl, _⟩ := hfoot G (Agr.refl _ _ _)
 have HFt := hid hfoot
 have HFG := hid hFG
 clear hfoot hFG HNx
 unfold tkV tkL
 generalize hnv : nxV 81 cv1 (decide (ph1 = 12)) = nv
 generalize hna : (if decide (ph1 = 12) = true then a8Z else ac8 (op1, at1, a3, a4, a5)) = na
 obtain ⟨n0, n1', ⟨n2, n3, n4⟩, n5, n6, n7⟩ := na
 have hst : ∀ (a : Addr) (m : Mode) (w : World), (store a nv m).run Tryd.prog w = stored Tryd.prog w a nv m := fun a m w => run_store _ w a nv m (by rw [← hnv]; cases (decide (ph1 = 12)) <;> rfl)
 have HNv := hid hnv
 have HNa := hid hna
 clear hnv hna
 go_wp2_with fail
 obtain ⟨b9, hb9⟩ : ∃ b9, b9 = G.heap.size := ⟨_, rfl⟩
 generalize hH : World.alloc _ _ = H
 rw [← hb9]
 have HAs := hid (show AskR b7 b9 D 0 H ⟨ph1, i1, j1, (w1, w2, w3), ld1, st1⟩ c1 cv1 nv ⟨n0, n1', (n2, n3, n4), n5, n6, n7⟩ (op1, at1, (a3, a4, a5)) la1 sa1 none lc1 sc1 0 [] from by
  have hGH : Ext G H := by rw [← hH]; exact Ext.of_alloc _ _
  have hFH := HFG.out.trans hGH
  have hEH := HEF.out.trans hFH
  have hFs := HFs.out
  have hE7 := HE7.out
  have hG := HFG.out.size
  have hEs := hEH.size
  exact {
   ext := HDE.out.trans hEH
   st7 := HF7.out.of hFH
   at8 := HF8.out.of hFH
   tk9 := by rw [← hH, hb9]; exact Blk.new _ _ rfl rfl
   hnv := HNv.out
   hna := HNa.out
   rel := HRel.out
   cw := ((HFt.out G (Agr.refl _ _ _)).2.2.bd.of hGH).imp (fun k h => ⟨by rcases h.1 with h1 | h1 <;> omega, by rcases h.1 with h1 | h1 <;> omega, by have := h.2; omega⟩)
   ld := HV1.out.ld.of wdE_len hEH
   st := HV1.out.st.of locE_len hEH
   lb := fun d hd => by have := HV1.out.lb d hd; exact ⟨⟨by omega, by omega, by omega⟩, by omega⟩
   sb := fun d hd => by have := HV1.out.sb d hd; exact ⟨⟨by omega, by omega, by omega⟩, by omega⟩
   gsl := Sl.nil
   gn := ⟨rfl, fun _ => rfl⟩
   gb := fun d hd => by cases hd
   inv := HCi.out.1
   len := HCi.out.2
   bi := HKp.out.i
   bs := HKp.out.st
   bl := HKp.out.ld
   ldk := HKp.out.ldk (fun a ha => by cases ha)
   metk := HKp.out.metk (wdOk0 0 (by omega)) })
 have HHb := hid (show b9 < H.heap.size ∧ b7 + 1 < b9 from by
  have hFs := HFs.out
  have hG := HFG.out.size
  exact ⟨by rw [← hH, hb9]; simp, by omega⟩)
 have HDb := hid (show D.heap.size ≤ b7 from by have h1 := HDE.out.size; have h2 := HE7.out; omega)
 clear hH hb9 hst HNv HNa HFt HFG HF7 HF8 HEF HFs HE7 HRel HCi HV1 HNl HNs1 HKp HBo HN0 HRv0 HDE HDF
 have hln : l.length ≤ 300 := by omega
 go_loopw [10] (fun i wr => ∃ (k : Nat) (s : RS) (c : CS) (cv nv : Value) (na : A8) (act : Ac) (la sa ga : Option Addr) (lc sc gc : Nat) (gs : List Gt), k ≤ l.length ∧ i = .int .i64 k ∧ Hid (AskR b7 b9 D k wr s c cv nv na act la sa ga lc sc gc gs)) (fun i _ => l.length + 1 - (intOf i).toNat)
 case atStart => exact ⟨0, _, _, _, _, _, _, _, _, _, _, _, _, _, Nat.zero_le _, rfl, HAs⟩
 case round =>
 clear HAs
 obtain ⟨k, s, c, cv, nv, na, act, la, sa, ga, lc, sc, gc, gs, hk, rfl, HA⟩ := hrel
 obtain ⟨p1, p2, ⟨p3, p4, p5⟩, p6, p7, p8⟩ := na
 have HKl := hid hk
 have hki : (k : Int) ≤ (l.length : Int) := by omega
 have hdk : decide (k ≤ l.length) = true := decide_eq_true hk
 have HwR := hid (HwD.out.trans HA.out.ext)
 obtain ⟨u0, u1, u2, u3, u4, u5, u6, u7, u8, u9, u10⟩ := Blk.at11 HA.out.tk9
 have ug := HA.out.tk9.1
 have x0 := HA.out.st7.2.2 0 _ rfl
 have xg := HA.out.st7.1
 have hns := fun w => neq_act_self p1 p2 p3 p4 p5 p6 p7 p8 w
 have hng := eq_guard_act
 by_cases h12 : s.ph = 12
 ·have hnv := HA.out.hnv
  rw [show decide (s.ph = 12) = true from decide_eq_true h12] at hnv
  have hnv : nv = .nilFunc := hnv.symm
  subst hnv
  rw [h12] at x0
  have HEn := hid (show c.ended = true from by
   have hr := HA.out.rel
   cases hr with
   | p12 h he => exact he
   | _ => omega)
  clear h12
  go_wp2_with (first
   | (go_call (tact_any (.iface 81 cv) .nilFunc true (.inl ⟨rfl, rfl⟩) ⟨p1, p2, (p3, p4, p5), (p6, p7, p8)⟩ ga k gc _) as e w' ⟨rfl, r5, rfl⟩)
   | (go_call (tcode_any (.iface 81 cv) .nilFunc ⟨p1, p2, (p3, p4, p5), (p6, p7, p8)⟩ ga k gc _) as e w' ⟨rfl, r6, rfl⟩)
   | (go_call (fin_any (HA.out.cw.of (show Ext wr _ by (show Ext _ _; repeat first | (with_reducible first | (refine xH ?_; assumption) | exact xR _ | refine xX ?_ _ | refine xA ?_ _) | refine xD ?_ | refine xN ?_ _ | exact xR _)))) as e w' ⟨rfl, r7, rfl⟩; rw [HEn.out]))
  all_goals
   go_ret
   exact ⟨rfl, HwR.out.trans (by (show Ext _ _; repeat first | (with_reducible first | (refine xH ?_; assumption) | exact xR _ | refine xX ?_ _ | refine xA ?_ _) | refine xD ?_ | refine xN ?_ _ | exact xR _))⟩
 ·have hnv := HA.out.hnv
  rw [show decide (s.ph = 12) = false from decide_eq_false h12] at hnv
  have hnv : nv = .func (.method "Next") #[.iface 81 cv] #[] := hnv.symm
  subst hnv
  have hna := HA.out.hna
  rw [show decide (s.ph = 12) = false from decide_eq_false h12] at hna
  have hna : ac8 act = ⟨p1, p2, (p3, p4, p5), p6, p7, p8⟩ := hna
  have HB8 := hid (show Blk wr (b7 + 1) [.int .i64 p1, .int .i64 p2, .int .i64 p3, .int .u32 p4, .int .u32 p5, .int .i64 p6, .int .u32 p7, .int .u32 p8] from by have h := HA.out.at8; rw [← ac8_cells, hna] at h; exact h)
  have HNa := hid hna
  obtain ⟨v0, v1, v2, v3, v4, v5, v6, v7⟩ := HB8.out.eight
  have vg := HB8.out.1
  have HEn := hid (show c.ended = false from by
   have hr := HA.out.rel
   cases hr with
   | p12 h he => exact absurd h h12
   | p1 _ _ h0 _ _ _ _ _ _ => exact h0.ended
   | p2 _ _ h0 _ _ _ _ _ _ _ _ _ _ _ => exact h0.ended
   | p3 _ h0 _ _ _ _ _ _ => exact h0.ended
   | p4 _ he _ _ _ _ _ _ _ _ => exact he
   | p5 _ he _ _ _ _ _ _ _ => exact he
   | p6 _ _ h0 _ _ _ _ _ => exact h0.ended
   | p7 _ h0 _ _ _ _ _ => exact h0.ended
   | p8 _ _ h0 _ _ _ _ => exact h0.ended
   | p9 _ h0 _ _ _ _ => exact h0.ended
   | p10 _ he _ _ _ _ _ => exact he
   | p11 _ he _ _ _ _ => exact he)
  have hq0 : ¬ (s.ph : Int) = 12 := by omega
  have hq1 : decide ((s.ph : Int) = 12) = false := decide_eq_false hq0
  have hq2 : ((s.ph : Int) == 12) = false := by simpa using hq0
  have HP12 := hid h12
  clear hna h12
  by_cases hkl : k = l.length
  ·have hkd : decide (k = l.length) = true := decide_eq_true hkl
   have hki2 : ((k : Int) == (l.length : Int)) = true := by simp [hkl]
   have HKL := hid hkl
   clear hkl
   go_wp2_with (first
    | (go_call (tact_any (.iface 81 cv) (.func (.method "Next") #[.iface 81 cv] #[]) false (.inr ⟨rfl, _, _, _, rfl⟩) ⟨p1, p2, (p3, p4, p5), (p6, p7, p8)⟩ ga k gc _) as e w' ⟨rfl, r5, rfl⟩)
    | (go_call (tcode_any (.iface 81 cv) (.func (.method "Next") #[.iface 81 cv] #[]) ⟨p1, p2, (p3, p4, p5), (p6, p7, p8)⟩ ga k gc _) as e w' ⟨rfl, r6, rfl⟩)
    | (go_call (fin_any (HA.out.cw.of (show Ext wr _ by (show Ext _ _; repeat first | (with_reducible first | (refine xH ?_; assumption) | exact xR _ | refine xX ?_ _ | refine xA ?_ _) | refine xD ?_ | refine xN ?_ _ | exact xR _)))) as e w' ⟨rfl, r7, rfl⟩; rw [HEn.out]))
   all_goals
    go_ret
    exact ⟨rfl, HwR.out.trans (by (show Ext _ _; repeat first | (with_reducible first | (refine xH ?_; assumption) | exact xR _ | refine xX ?_ _ | refine xA ?_ _) | refine xD ?_ | refine xN ?_ _ | exact xR _))⟩
  ·have hkd : decide (k = l.length) = false := decide_eq_false hkl
   have hki2 : ((k : Int) == (l.length : Int)) = false := by simp; omega
   have hkl2 : ¬ (k : Int) = (l.length : Int) := by omega
   have HKL := hid (show k < l.length by omega)
   clear hkl
   go_wp2_with (first
    | (go_call (tact_any (.iface 81 cv) (.func (.method "Next") #[.iface 81 cv] #[]) false (.inr ⟨rfl, _, _, _, rfl⟩) ⟨p1, p2, (p3, p4, p5), (p6, p7, p8)⟩ ga k gc _) as e w' ⟨rfl, r5, rfl⟩)
    | (go_call (tcode_any (.iface 81 cv) (.func (.method "Next") #[.iface 81 cv] #[]) ⟨p1, p2, (p3, p4, p5), (p6, p7, p8)⟩ ga k gc _) as e w' ⟨rfl, r6, rfl⟩)
    | (go_call (fin_any (HA.out.cw.of (show Ext wr _ by (show Ext _ _; repeat first | (with_reducible first | (refine xH ?_; assumption) | exact xR _ | refine xX ?_ _ | refine xA ?_ _) | refine xD ?_ | refine xN ?_ _ | exact xR _)))) as e w' ⟨rfl, r7, rfl⟩; rw [HEn.out]))
   obtain ⟨b11, hb11⟩ : ∃ b11, b11 = wr.heap.size + r5.new.size := ⟨_, rfl⟩
   generalize hX : ext _ r7 = X
   rw [← hb11]
   have HEX := hid (show Ext wr X by rw [← hX]; (show Ext _ _; repeat first | (with_reducible first | (refine xH ?_; assumption) | exact xR _ | refine xX ?_ _ | refine xA ?_ _) | refine xD ?_ | refine xN ?_ _ | exact xR _))
   have HX11 := hid (show Blk X b11 [.int .i64 p1, .int .i64 p2, .int .i64 p3, .int .u32 p4, .int .u32 p5, .int .i64 p6, .int .u32 p7, .int .u32 p8] by rw [← hX, hb11]; exact ((Blk.new _ _ rfl (by simp)).ext r6).ext r7)
   have HX9 := hid (HA.out.tk9.of HEX.out)
   have HB11 := hid (show wr.heap.size ≤ b11 by omega)
   clear hX hb11 u0 u1 u2 u3 u4 u5 u6 u7 u8 u9 u10 ug v0 v1 v2 v3 v4 v5 v6 v7 vg x0 xg hki hdk hq0 hq1 hq2
   obtain ⟨⟨⟨g1, g2, g3⟩, gok⟩, hgk⟩ : ∃ g, l[k]? = some g := ⟨_, List.getElem?_eq_getElem HKL.out⟩
   have HGk := hid (HO.out _ (List.mem_of_getElem? hgk))
   obtain ⟨hq0, bg, og, hab, hbg, hcg⟩ := Sl.at HG.out hgk
   have hwX := HwR.out.trans HEX.out
   have e0 := hwX.cell (hcg 0 (by omega))
   have e1 := hwX.cell (hcg 1 (by omega))
   have e2 := hwX.cell (hcg 2 (by omega))
   have e3 := hwX.cell (hcg 3 (by omega))
   simp [gtE] at e0 e1 e2 e3
   have eg := Nat.lt_of_lt_of_le hbg hwX.size
   have HwX := hid hwX
   have HgK := hid hgk
   subst hab
   have hkl3 : k < l.length := HKL.out
   have hkl4 : (k : Int) < (l.length : Int) := by omega
   clear hcg hq0 hwX hgk
   obtain ⟨n, c', hsp, hrel⟩ := both_next K131 kok131 HA.out.rel HP12.out (by have := HA.out.bs; omega) (g1, g2, g3)
   obtain ⟨hti, htl⟩ := take_inv HA.out.rel HP12.out HA.out.inv (by have := HA.out.len; omega) (g1, g2, g3) HGk.out
   have HNx := hid (next_ok K131 kat131 (HS.out.of HwX.out) (fun j => NB b7 b9 j ∧ j < wr.heap.size) c cv (HA.out.cw.bd.of HEX.out) g1 g2 g3 gok (fun hl => by obtain ⟨p, r, h, _⟩ := rel_loads HA.out.rel HP12.out hl; exact ⟨p, r, h⟩) (by have := HA.out.len; omega) hti n c' _ _ hsp)
   have HSi := hid (spin_inv hsp hti)
   have HTl := hid htl
   have HRl := hid hrel
   clear hsp hrel hti htl
   obtain ⟨r, hr⟩ : ∃ r, r = rNext K131 s (g1, g2, g3) := ⟨_, rfl⟩
   have HR := hid hr
   rw [← hr] at HNx HRl
   clear hr
   obtain ⟨u0, u1, u2, u3, u4, u5, u6, u7, u8, u9, u10⟩ := Blk.at11 HX9.out
   have ug := HX9.out.1
   have HSt := hid (show ∀ w', Ext X w' → (fun w' => (((w'.cell? ⟨b9, 0, none⟩ = some (.iface 81 cv) ∧ w'.cell? ⟨b9, 1, none⟩ = some (.func (.method "Next") #[.iface 81 cv] #[]) ∧ w'.cell? ⟨b9, 2, none⟩ = some (.int .i64 p1) ∧ w'.cell? ⟨b9, 3, none⟩ = some (.int .i64 p2) ∧ w'.cell? ⟨b9, 4, none⟩ = some (.int .i64 p3) ∧ w'.cell? ⟨b9, 5, none⟩ = some (.int .u32 p4)) ∧ (w'.cell? ⟨b9, 6, none⟩ = some (.int .u32 p5) ∧ w'.cell? ⟨b9, 7, none⟩ = some (.int .i64 p6) ∧ w'.cell? ⟨b9, 8, none⟩ = some (.int .u32 p7) ∧ w'.cell? ⟨b9, 9, none⟩ = some (.int .u32 p8) ∧ w'.cell? ⟨b9, 10, none⟩ = some (.slice ga k gc))) ∧ (w'.cell? ⟨bg, og + k * 4, none⟩ = some (.int .i64 g1) ∧ w'.cell? ⟨bg, og + k * 4 + 1, none⟩ = some (.int .u32 g2) ∧ w'.cell? ⟨bg, og + k * 4 + 2, none⟩ = some (.int .u32 g3) ∧ w'.cell? ⟨bg, og + k * 4 + 3, none⟩ = some (.bool gok))) ∧ (b9 < w'.heap.size ∧ bg < w'.heap.size)) w' from fun w' G => ⟨⟨⟨⟨G.cell u0, G.cell u1, G.cell u2, G.cell u3, G.cell u4, G.cell u5⟩, G.cell u6, G.cell u7, G.cell u8, G.cell u9, G.cell u10⟩, G.cell e0, G.cell e1, G.cell e2, G.cell e3⟩, Nat.lt_of_lt_of_le ug G.size, Nat.lt_of_lt_of_le eg G.size⟩)
   have HXs := hid HEX.out.size
   have hgsX : Sl X 4 gtE (.slice ga gs.length gc) gs := by rw [HA.out.gn.1]; exact HA.out.gsl.of gtE_len HEX.out
   have HGs := hid hgsX
   clear hgsX
   have HGv := hid (show ∀ W, Ext X W → Calls Tryd.prog 12 #[goV 81 cv ⟨p1, p2, (p3, p4, p5), p6, p7, p8⟩ ga k gc, .agg #[.int .i64 g1, .int .u32 g2, .int .u32 g3, .bool gok]] W (GivePost 81 W (fun j => NB b7 b9 j ∧ j < wr.heap.size) gs ((g1, g2, g3), gok) (fun V cv' a' d' => a' = ac8 r.2 ∧ d' = decide (r.1.ph = 12) ∧ Cw 1 3 1 V cv' c' (fun j => (NB b7 b9 j ∧ j < wr.heap.size) ∨ X.heap.size ≤ j))) from fun W hW => by
    have h := tgive_any codeT_redo cv ⟨p1, p2, (p3, p4, p5), p6, p7, p8⟩ ga gc gs g1 g2 g3 gok X W hW HGs.out HA.out.gn.2 (by have := HA.out.gn.1; omega) (fun j h => by have := h.2; have := HXs.out; omega) HNx.out
    rw [HA.out.gn.1] at h
    exact h)
   go_cut [14] (fun t14 wx => ∃ q cv' nv' na' g1' c1', t14 = .pointer (some ⟨q, 0, none⟩) ∧ Hid (Blk wx q (tkL (.iface 81 cv') nv' na' (some g1') (k + 1) c1')) ∧ Hid (nxV 81 cv' (decide (r.1.ph = 12)) = nv' ∧ (if decide (r.1.ph = 12) = true then a8Z else ac8 r.2) = na') ∧ Hid (Ext X wx) ∧ Hid (X.heap.size ≤ q ∧ X.heap.size ≤ g1'.block) ∧ Hid (Cw 1 3 1 wx cv' c' (fun j => (NB b7 b9 j ∧ j < wr.heap.size) ∨ X.heap.size ≤ j)) ∧ Hid (Sl wx 4 gtE (.slice (some g1') (k + 1) c1') (gs ++ [((g1, g2, g3), gok)])))
   case first =>
    refine wp_region_held_drew (S := fun w' => (((w'.cell? ⟨b9, 0, none⟩ = some (.iface 81 cv) ∧ w'.cell? ⟨b9, 1, none⟩ = some (.func (.method "Next") #[.iface 81 cv] #[]) ∧ w'.cell? ⟨b9, 2, none⟩ = some (.int .i64 p1) ∧ w'.cell? ⟨b9, 3, none⟩ = some (.int .i64 p2) ∧ w'.cell? ⟨b9, 4, none⟩ = some (.int .i64 p3) ∧ w'.cell? ⟨b9, 5, none⟩ = some (.int .u32 p4)) ∧ (w'.cell? ⟨b9, 6, none⟩ = some (.int .u32 p5) ∧ w'.cell? ⟨b9, 7, none⟩ = some (.int .i64 p6) ∧ w'.cell? ⟨b9, 8, none⟩ = some (.int .u32 p7) ∧ w'.cell? ⟨b9, 9, none⟩ = some (.int .u32 p8) ∧ w'.cell? ⟨b9, 10, none⟩ = some (.slice ga k gc))) ∧ (w'.cell? ⟨bg, og + k * 4, none⟩ = some (.int .i64 g1) ∧ w'.cell? ⟨bg, og + k * 4 + 1, none⟩ = some (.int .u32 g2) ∧ w'.cell? ⟨bg, og + k * 4 + 2, none⟩ = some (.int .u32 g3) ∧ w'.cell? ⟨bg, og + k * 4 + 3, none⟩ = some (.bool gok))) ∧ (b9 < w'.heap.size ∧ bg < w'.heap.size)) (by kernel_rfl) (by exact HSt.out _ (by (show Ext _ _; repeat with_reducible first | (refine xH ?_; assumption) | exact xR _ | refine xX ?_ _ | refine xA ?_ _ | refine xD ?_ | refine xS ?_ (by (try dsimp only); first | omega | (simp; done) | (simp; omega)) _))) (fun hHeld => ?_)
    refine take_met 0 (oi := ⟨_, _, _, _, _, _⟩) (v := ?_) (by kernel_rfl) rfl (by rfl) (fun _ _ _ h => h) (by assumption) ?_ ?_
    rotate_left 1
    ·intro w hSw
     try dsimp only at hSw
     go_simp
     try with_reducible rfl
    (try simp only [Act.put, pA, pB, pC])
    refine take_met 1 (oi := ⟨_, _, _, _, _, _⟩) (v := ?_) (by kernel_rfl) rfl (by rfl) (fun _ _ _ h => h) (by assumption) ?_ ?_
    rotate_left 1
    ·intro w hSw
     try dsimp only at hSw
     go_simp
     try with_reducible rfl
    (try simp only [Act.put, pA, pB, pC])
    refine take_met 2 (oi := ⟨_, _, _, _, _, _⟩) (v := ?_) (by kernel_rfl) rfl (by rfl) (fun _ _ _ h => h) (by assumption) ?_ ?_
    rotate_left 1
    ·intro w hSw
     try dsimp only at hSw
     go_simp
     try with_reducible rfl
    (try simp only [Act.put, pA, pB, pC])
    refine take_met 3 (oi := ⟨_, _, _, _, _, _⟩) (v := ?_) (by kernel_rfl) rfl (by rfl) (fun _ _ _ h => h) (by assumption) ?_ ?_
    rotate_left 1
    ·intro w hSw
     try dsimp only at hSw
     go_simp
     try with_reducible rfl
    (try simp only [Act.put, pA, pB, pC])
    refine take_met 4 (oi := ⟨_, _, _, _, _, _⟩) (v := ?_) (by kernel_rfl) rfl (by rfl) (fun _ _ _ h => h) (by assumption) ?_ ?_
    rotate_left 1
    ·intro w hSw
     try dsimp only at hSw
     go_simp
     try with_reducible rfl
    (try simp only [Act.put, pA, pB, pC])
    refine wpAnyH_ready (rs := [5, 6]) (by kernel_rfl) (by simp) ?_
    refine AllReadyH.cons (o := ⟨_, _, _, _, _, _⟩) rfl (fun K hK => ?_) ?_
    ·
     go_simp
     first
      | (go_at_call 12; refine (HGv.out _ (show Ext X _ by (show Ext _ _; repeat with_reducible first | (refine xH ?_; assumption) | exact xR _ | refine xX ?_ _ | refine xA ?_ _ | refine xD ?_ | refine xS ?_ (by (try dsimp only); first | omega | (simp; done) | (simp; omega)) _))).mono ?_; rintro e w' ⟨cv', a', d', g1', c1', rfl, ⟨r8, rfl⟩, hgb, hfoot⟩; rw [HA.out.gn.1]; have HFo := hid hfoot; have HGb := hid hgb; clear hfoot hgb; unfold tkV tkL; generalize hnv2 : nxV 81 cv' d' = nv'; generalize hna2 : (if d' = true then a8Z else a') = na'; obtain ⟨y1, y2, ⟨y3, y4, y5⟩, y6, y7, y8⟩ := na'; have hst : ∀ (a : Addr) (m : Mode) (w : World), (store a nv' m).run Tryd.prog w = stored Tryd.prog w a nv' m := fun a m w => run_store _ w a nv' m (by rw [← hnv2]; cases d' <;> rfl); have HN2 := hid hnv2; have HN3 := hid hna2; clear hnv2 hna2)
     have hOld := hHeld
     clear hHeld
     refine hK.out _ _ (by exact HSt.out _ (by (show Ext _ _; repeat with_reducible first | (refine xH ?_; assumption) | exact xR _ | refine xX ?_ _ | refine xA ?_ _ | refine xD ?_ | refine xS ?_ (by (try dsimp only); first | omega | (simp; done) | (simp; omega)) _))) (fun hHeld => ?_)
     clear hOld hK K
     (try simp only [Act.put, pA, pB, pC])
     refine take_only 6 (oi := ⟨_, _, _, _, _, _⟩) (by kernel_rfl) rfl (fun K hK => ?_)
     go_simp
     have hOld := hHeld
     clear hHeld
     refine hK.out _ _ (by exact HSt.out _ (by (show Ext _ _; repeat with_reducible first | (refine xH ?_; assumption) | exact xR _ | refine xX ?_ _ | refine xA ?_ _ | refine xD ?_ | refine xS ?_ (by (try dsimp only); first | omega | (simp; done) | (simp; omega)) _))) (fun hHeld => ?_)
     clear hOld hK K
     (try simp only [Act.put, pA, pB, pC])
     refine take_only 7 (oi := ⟨_, _, _, _, _, _⟩) (by kernel_rfl) rfl (fun K hK => ?_)
     go_simp
     have hOld := hHeld
     clear hHeld
     refine hK.out _ _ (by exact HSt.out _ (by (show Ext _ _; repeat with_reducible first | (refine xH ?_; assumption) | exact xR _ | refine xX ?_ _ | refine xA ?_ _ | refine xD ?_ | refine xS ?_ (by (try dsimp only); first | omega | (simp; done) | (simp; omega)) _))) (fun hHeld => ?_)
     clear hOld hK K
     (try simp only [Act.put, pA, pB, pC])
     refine wpAnyH_done (by kernel_rfl) ?_ _
     go_wp2_with fail
     first
      | (have hf := HFo.out _ (Agr.of_ext (show Ext (ext X.drew r8) ((ext X r8).alloc (.cells #[.iface 81 cv', nv', .int .i64 y1, .int .i64 y2, .int .i64 y3, .int .u32 y4, .int .u32 y5, .int .i64 y6, .int .u32 y7, .int .u32 y8, .slice (some g1') (k + 1) c1'] 53)) from Ext.of_alloc _ _)); obtain ⟨⟨rfl, rfl, hcw⟩, hsl⟩ := hf; rw [HA.out.gn.1] at hsl; have hgb : X.heap.size ≤ g1'.block := HGb.out; go_meet; exact ⟨_, cv', nv', ⟨y1, y2, (y3, y4, y5), y6, y7, y8⟩, g1', c1', rfl, Blk.new _ _ rfl (by simp), ⟨HN2.out, HN3.out⟩, by (show Ext _ _; repeat with_reducible first | (refine xH ?_; assumption) | exact xR _ | refine xX ?_ _ | refine xA ?_ _ | refine xD ?_ | refine xS ?_ (by (try dsimp only); first | omega | (simp; done) | (simp; omega)) _), ⟨by omega, hgb⟩, hcw, hsl⟩)
      | (obtain ⟨V, hV, HV, hG2⟩ := st11 (show Blk (ext (X.alloc (.cells #[.nilIface, .nilFunc, .int .i64 0, .int .i64 0, .int .i64 0, .int .u32 0, .int .u32 0, .int .i64 0, .int .u32 0, .int .u32 0, .slice none 0 0] 53)) r8) X.heap.size Z11 from (Blk.new _ _ rfl rfl).ext r8) (.iface 81 cv') nv' (.int .i64 y1) (.int .i64 y2) (.int .i64 y3) (.int .u32 y4) (.int .u32 y5) (.int .i64 y6) (.int .u32 y7) (.int .u32 y8) (.slice (some g1') (k + 1) c1'); rw [hV]; have hf := HFo.out V (Agr.grn hG2 (Agr.refl _ X.heap.size V) (by simp) (fun h => by have := h.2; have := HXs.out; omega) (by simp)); obtain ⟨⟨rfl, rfl, hcw⟩, hsl⟩ := hf; rw [HA.out.gn.1] at hsl; have hgb := HGb.out; simp at hgb; have hxv : Ext X V := Ext.grn (show Ext X (ext (X.alloc _) r8) by (show Ext _ _; repeat with_reducible first | (refine xH ?_; assumption) | exact xR _ | refine xX ?_ _ | refine xA ?_ _ | refine xD ?_ | refine xS ?_ (by (try dsimp only); first | omega | (simp; done) | (simp; omega)) _)) hG2 (Nat.le_refl _); clear hV; go_meet; exact ⟨_, cv', nv', ⟨y1, y2, (y3, y4, y5), y6, y7, y8⟩, g1', c1', rfl, HV, ⟨HN2.out, HN3.out⟩, hxv, ⟨Nat.le_refl _, by omega⟩, hcw, hsl⟩)
    refine AllReadyH.cons (o := ⟨_, _, _, _, _, _⟩) rfl (fun K hK => ?_) AllReadyH.nil
    go_simp
    have hOld := hHeld
    clear hHeld
    refine hK.out _ _ (by exact HSt.out _ (by (show Ext _ _; repeat with_reducible first | (refine xH ?_; assumption) | exact xR _ | refine xX ?_ _ | refine xA ?_ _ | refine xD ?_ | refine xS ?_ (by (try dsimp only); first | omega | (simp; done) | (simp; omega)) _))) (fun hHeld => ?_)
    clear hOld hK K
    (try simp only [Act.put, pA, pB, pC])
    refine take_only 5 (oi := ⟨_, _, _, _, _, _⟩) (by kernel_rfl) rfl (fun K hK => ?_)
    go_simp
    first
     | (go_at_call 12; refine (HGv.out _ (show Ext X _ by (show Ext _ _; repeat with_reducible first | (refine xH ?_; assumption) | exact xR _ | refine xX ?_ _ | refine xA ?_ _ | refine xD ?_ | refine xS ?_ (by (try dsimp only); first | omega | (simp; done) | (simp; omega)) _))).mono ?_; rintro e w' ⟨cv', a', d', g1', c1', rfl, ⟨r8, rfl⟩, hgb, hfoot⟩; rw [HA.out.gn.1]; have HFo := hid hfoot; have HGb := hid hgb; clear hfoot hgb; unfold tkV tkL; generalize hnv2 : nxV 81 cv' d' = nv'; generalize hna2 : (if d' = true then a8Z else a') = na'; obtain ⟨y1, y2, ⟨y3, y4, y5⟩, y6, y7, y8⟩ := na'; have hst : ∀ (a : Addr) (m : Mode) (w : World), (store a nv' m).run Tryd.prog w = stored Tryd.prog w a nv' m := fun a m w => run_store _ w a nv' m (by rw [← hnv2]; cases d' <;> rfl); have HN2 := hid hnv2; have HN3 := hid hna2; clear hnv2 hna2)
    have hOld := hHeld
    clear hHeld
    refine hK.out _ _ (by exact HSt.out _ (by (show Ext _ _; repeat with_reducible first | (refine xH ?_; assumption) | exact xR _ | refine xX ?_ _ | refine xA ?_ _ | refine xD ?_ | refine xS ?_ (by (try dsimp only); first | omega | (simp; done) | (simp; omega)) _))) (fun hHeld => ?_)
    clear hOld hK K
    (try simp only [Act.put, pA, pB, pC])
    refine take_only 7 (oi := ⟨_, _, _, _, _, _⟩) (by kernel_rfl) rfl (fun K hK => ?_)
    go_simp
    have hOld := hHeld
    clear hHeld
    refine hK.out _ _ (by exact HSt.out _ (by (show Ext _ _; repeat with_reducible first | (refine xH ?_; assumption) | exact xR _ | refine xX ?_ _ | refine xA ?_ _ | refine xD ?_ | refine xS ?_ (by (try dsimp only); first | omega | (simp; done) | (simp; omega)) _))) (fun hHeld => ?_)
    clear hOld hK K
    (try simp only [Act.put, pA, pB, pC])
    refine wpAnyH_done (by kernel_rfl) ?_ _
    go_wp2_with fail
    first
     | (have hf := HFo.out _ (Agr.of_ext (show Ext (ext X.drew r8) ((ext X r8).alloc (.cells #[.iface 81 cv', nv', .int .i64 y1, .int .i64 y2, .int .i64 y3, .int .u32 y4, .int .u32 y5, .int .i64 y6, .int .u32 y7, .int .u32 y8, .slice (some g1') (k + 1) c1'] 53)) from Ext.of_alloc _ _)); obtain ⟨⟨rfl, rfl, hcw⟩, hsl⟩ := hf; rw [HA.out.gn.1] at hsl; have hgb : X.heap.size ≤ g1'.block := HGb.out; go_meet; exact ⟨_, cv', nv', ⟨y1, y2, (y3, y4, y5), y6, y7, y8⟩, g1', c1', rfl, Blk.new _ _ rfl (by simp), ⟨HN2.out, HN3.out⟩, by (show Ext _ _; repeat with_reducible first | (refine xH ?_; assumption) | exact xR _ | refine xX ?_ _ | refine xA ?_ _ | refine xD ?_ | refine xS ?_ (by (try dsimp only); first | omega | (simp; done) | (simp; omega)) _), ⟨by omega, hgb⟩, hcw, hsl⟩)
     | (obtain ⟨V, hV, HV, hG2⟩ := st11 (show Blk (ext (X.alloc (.cells #[.nilIface, .nilFunc, .int .i64 0, .int .i64 0, .int .i64 0, .int .u32 0, .int .u32 0, .int .i64 0, .int .u32 0, .int .u32 0, .slice none 0 0] 53)) r8) X.heap.size Z11 from (Blk.new _ _ rfl rfl).ext r8) (.iface 81 cv') nv' (.int .i64 y1) (.int .i64 y2) (.int .i64 y3) (.int .u32 y4) (.int .u32 y5) (.int .i64 y6) (.int .u32 y7) (.int .u32 y8) (.slice (some g1') (k + 1) c1'); rw [hV]; have hf := HFo.out V (Agr.grn hG2 (Agr.refl _ X.heap.size V) (by simp) (fun h => by have := h.2; have := HXs.out; omega) (by simp)); obtain ⟨⟨rfl, rfl, hcw⟩, hsl⟩ := hf; rw [HA.out.gn.1] at hsl; have hgb := HGb.out; simp at hgb; have hxv : Ext X V := Ext.grn (show Ext X (ext (X.alloc _) r8) by (show Ext _ _; repeat with_reducible first | (refine xH ?_; assumption) | exact xR _ | refine xX ?_ _ | refine xA ?_ _ | refine xD ?_ | refine xS ?_ (by (try dsimp only); first | omega | (simp; done) | (simp; omega)) _)) hG2 (Nat.le_refl _); clear hV; go_meet; exact ⟨_, cv', nv', ⟨y1, y2, (y3, y4, y5), y6, y7, y8⟩, g1', c1', rfl, HV, ⟨HN2.out, HN3.out⟩, hxv, ⟨Nat.le_refl _, by omega⟩, hcw, hsl⟩)
   case rest =>
   obtain ⟨q, cv', nv', na', g1', c1', rfl, hbq, hnn, hxc, hbnd, hcw, hsl⟩ := hcut
   obtain ⟨z0, z1, ⟨z2, z3, z4⟩, z5, z6, z7⟩ := na'
   have hr9 := HX9.out.of hxc.out
   have hr11 := HX11.out.of hxc.out
   clear u0 u1 u2 u3 u4 u5 u6 u7 u8 u9 u10 ug e0 e1 e2 e3 eg
   obtain ⟨u0, u1, u2, u3, u4, u5, u6, u7, u8, u9, u10⟩ := Blk.at11 hr9
   have ug := hr9.1
   obtain ⟨v0, v1, v2, v3, v4, v5, v6, v7⟩ := hr11.eight
   have vg := hr11.1
   clear hr9 hr11 HSt
   go_wp2_with (first
    | (go_call (tact_any (.iface 81 cv) (.func (.method "Next") #[.iface 81 cv] #[]) false (.inr ⟨rfl, _, _, _, rfl⟩) ⟨p1, p2, (p3, p4, p5), (p6, p7, p8)⟩ ga k gc _) as e w' ⟨rfl, r9, rfl⟩))
   generalize hY : World.alloc _ _ = Y
   have HWY := hid (show Ext wc Y by rw [← hY]; (show Ext _ _; repeat first | (with_reducible first | (refine xH ?_; assumption) | exact xR _ | refine xX ?_ _ | refine xA ?_ _) | refine xD ?_ | refine xN ?_ _ | exact xR _))
   clear hY u0 u1 u2 u3 u4 u5 u6 u7 u8 u9 u10 ug v0 v1 v2 v3 v4 v5 v6 v7 vg
   have HXY := hid (hxc.out.trans HWY.out)
   have HRY := hid (HEX.out.trans HXY.out)
   have HDY := hid (HA.out.ext.trans HRY.out)
   have HwY := hid (HwD.out.trans HDY.out)
   have HY7 := hid (HA.out.st7.of HRY.out)
   have HY8 := hid (HB8.out.of HRY.out)
   have HY9 := hid (HX9.out.of HXY.out)
   have HYq := hid (hbq.out.of HWY.out)
   have hy4 := HD4.out.of HDY.out
   have m0 := hy4.2.2 0 _ rfl
   have m1 := hy4.2.2 1 _ rfl
   have m2 := hy4.2.2 2 _ rfl
   have m3 := hy4.2.2 3 _ rfl
   have m4 := hy4.2.2 4 _ rfl
   have m5 := hy4.2.2 5 _ rfl
   have m6 := hy4.2.2 6 _ rfl
   have m7 := hy4.2.2 7 _ rfl
   have m8 := hy4.2.2 8 _ rfl
   have m9 := hy4.2.2 9 _ rfl
   have m10 := hy4.2.2 10 _ rfl
   have mg := hy4.1
   obtain ⟨x0, x1, x2, x3, x4, x5, x6, x7⟩ := HY7.out.eight
   have xg := HY7.out.1
   have xf := HY7.out.2.1
   obtain ⟨y0, y1, y2, y3, y4, y5, y6, y7⟩ := HY8.out.eight
   have yf := HY8.out.2.1
   have yg := HY8.out.1
   obtain ⟨_, bg2, og2, hab2, hbg2, hcg⟩ := Sl.at HG.out HgK.out
   obtain ⟨rfl, rfl⟩ : bg = bg2 ∧ og = og2 := by cases hab2; exact ⟨rfl, rfl⟩
   have e0 := HwY.out.cell (hcg 0 (by omega))
   have e1 := HwY.out.cell (hcg 1 (by omega))
   have e2 := HwY.out.cell (hcg 2 (by omega))
   have e3 := HwY.out.cell (hcg 3 (by omega))
   simp [gtE] at e0 e1 e2 e3
   have eg := Nat.lt_of_lt_of_le hbg2 HwY.out.size
   clear hcg hab2 hbg2 hy4
   have HRn := hid (show ∀ W, Ext Y W → Calls Tryd.prog 7 #[.agg #[.int .i64 1, .int .i64 1, .int .i64 32, .int .i64 144, .int .i64 104, .int .i64 32, .slice pa np pc, .int .i64 176, .slice ma nm mc, .slice qa ns qc, .slice oa no oc], .agg (rsL s la sa lc sc).toArray, .agg #[.int .i64 g1, .int .u32 g2, .int .u32 g3, .bool gok]] W (RPost W la sa r) from fun W hW => by
    have hw := HRY.out.trans hW
    rw [HR.out]
    exact rnext_all (HKw.out.of (HDY.out.trans hW)) (show Rv W _ s la sa lc sc from ⟨rfl, HA.out.ld.of wdE_len hw, HA.out.st.of locE_len hw, fun d hd => Nat.lt_of_lt_of_le (HA.out.lb d hd).2 hw.size, fun d hd => Nat.lt_of_lt_of_le (HA.out.sb d hd).2 hw.size⟩) plok131 kok131 ⟨by have := HA.out.bi; omega, by have := HA.out.bs; omega, by have := HA.out.bl; omega, HA.out.ldk, HA.out.metk⟩ g1 g2 g3 gok HGk.out c HA.out.rel HP12.out)
   have HKp := hid (show Kp s r.1 from by rw [HR.out]; exact next_kp K131 s _ HGk.out)
   clear HR
   obtain ⟨⟨ph2, i2, j2, ⟨n1, n2, n3⟩, ld2, st2⟩, op2, at2, a2, a5, a6⟩ := r
   have hd4 := HD4.out.1
   have hdb := HDb.out
   have hwd := HwD.out.size
   have k41 : b4 ≠ b7 := by omega
   have k42 : b4 ≠ b7 + 1 := by omega
   have kg1 : bg ≠ b7 := by omega
   have kg2 : bg ≠ b7 + 1 := by omega
   have HSt := hid (show ∀ w', Gr2 b7 (b7 + 1) Y w' → (fun w' => (((w'.cell? ⟨b4, 0, none⟩ = some (.int .i64 1) ∧ w'.cell? ⟨b4, 1, none⟩ = some (.int .i64 1) ∧ w'.cell? ⟨b4, 2, none⟩ = some (.int .i64 32) ∧ w'.cell? ⟨b4, 3, none⟩ = some (.int .i64 144) ∧ w'.cell? ⟨b4, 4, none⟩ = some (.int .i64 104) ∧ w'.cell? ⟨b4, 5, none⟩ = some (.int .i64 32)) ∧ (w'.cell? ⟨b4, 6, none⟩ = some (.slice pa np pc) ∧ w'.cell? ⟨b4, 7, none⟩ = some (.int .i64 176) ∧ w'.cell? ⟨b4, 8, none⟩ = some (.slice ma nm mc) ∧ w'.cell? ⟨b4, 9, none⟩ = some (.slice qa ns qc) ∧ w'.cell? ⟨b4, 10, none⟩ = some (.slice oa no oc))) ∧ (w'.cell? ⟨bg, og + k * 4, none⟩ = some (.int .i64 g1) ∧ w'.cell? ⟨bg, og + k * 4 + 1, none⟩ = some (.int .u32 g2) ∧ w'.cell? ⟨bg, og + k * 4 + 2, none⟩ = some (.int .u32 g3) ∧ w'.cell? ⟨bg, og + k * 4 + 3, none⟩ = some (.bool gok))) ∧ (b4 < w'.heap.size ∧ bg < w'.heap.size)) w' from fun w' G => ⟨⟨⟨⟨G.cell k41 k42 m0, G.cell k41 k42 m1, G.cell k41 k42 m2, G.cell k41 k42 m3, G.cell k41 k42 m4, G.cell k41 k42 m5⟩, G.cell k41 k42 m6, G.cell k41 k42 m7, G.cell k41 k42 m8, G.cell k41 k42 m9, G.cell k41 k42 m10⟩, G.cell kg1 kg2 e0, G.cell kg1 kg2 e1, G.cell kg1 kg2 e2, G.cell kg1 kg2 e3⟩, Nat.lt_of_lt_of_le mg G.1, Nat.lt_of_lt_of_le eg G.1⟩)
   clear hd4 hdb hwd k41 k42 kg1 kg2 m0 m1 m2 m3 m4 m5 m6 m7 m8 m9 m10 e0 e1 e2 e3
   refine wp_region_held_drew (S := fun w' => (((w'.cell? ⟨b4, 0, none⟩ = some (.int .i64 1) ∧ w'.cell? ⟨b4, 1, none⟩ = some (.int .i64 1) ∧ w'.cell? ⟨b4, 2, none⟩ = some (.int .i64 32) ∧ w'.cell? ⟨b4, 3, none⟩ = some (.int .i64 144) ∧ w'.cell? ⟨b4, 4, none⟩ = some (.int .i64 104) ∧ w'.cell? ⟨b4, 5, none⟩ = some (.int .i64 32)) ∧ (w'.cell? ⟨b4, 6, none⟩ = some (.slice pa np pc) ∧ w'.cell? ⟨b4, 7, none⟩ = some (.int .i64 176) ∧ w'.cell? ⟨b4, 8, none⟩ = some (.slice ma nm mc) ∧ w'.cell? ⟨b4, 9, none⟩ = some (.slice qa ns qc) ∧ w'.cell? ⟨b4, 10, none⟩ = some (.slice oa no oc))) ∧ (w'.cell? ⟨bg, og + k * 4, none⟩ = some (.int .i64 g1) ∧ w'.cell? ⟨bg, og + k * 4 + 1, none⟩ = some (.int .u32 g2) ∧ w'.cell? ⟨bg, og + k * 4 + 2, none⟩ = some (.int .u32 g3) ∧ w'.cell? ⟨bg, og + k * 4 + 3, none⟩ = some (.bool gok))) ∧ (b4 < w'.heap.size ∧ bg < w'.heap.size)) (by kernel_rfl) (by exact HSt.out _ (by repeat (first | with_reducible exact Gr2.refl | ((with_reducible refine Gr2.setL ?_ _ _)) | ((with_reducible refine Gr2.setR ?_ _ _)) | ((with_reducible refine Gr2.ext ?_ _)) | ((with_reducible refine Gr2.alloc ?_ _)) | ((with_reducible refine Gr2.drew ?_))))) (fun hHeld => ?_)
   refine take_met 0 (oi := ⟨_, _, _, _, _, _⟩) (v := ?_) (by kernel_rfl) rfl (by rfl) (fun _ _ _ h => h) (by assumption) ?_ ?_
   rotate_left 1
   ·intro w hSw
    try dsimp only at hSw
    go_simp
    try with_reducible rfl
   (try simp only [Act.put, pA, pB, pC])
   refine take_met 2 (oi := ⟨_, _, _, _, _, _⟩) (v := ?_) (by kernel_rfl) rfl (by rfl) (fun _ _ _ h => h) (by assumption) ?_ ?_
   rotate_left 1
   ·intro w hSw
    try dsimp only at hSw
    go_simp
    try with_reducible rfl
   (try simp only [Act.put, pA, pB, pC])
   refine take_met 3 (oi := ⟨_, _, _, _, _, _⟩) (v := ?_) (by kernel_rfl) rfl (by rfl) (fun _ _ _ h => h) (by assumption) ?_ ?_
   rotate_left 1
   ·intro w hSw
    try dsimp only at hSw
    go_simp
    try with_reducible rfl
   (try simp only [Act.put, pA, pB, pC])
   refine take_met 4 (oi := ⟨_, _, _, _, _, _⟩) (v := ?_) (by kernel_rfl) rfl (by rfl) (fun _ _ _ h => h) (by assumption) ?_ ?_
   rotate_left 1
   ·intro w hSw
    try dsimp only at hSw
    go_simp
    try with_reducible rfl
   (try simp only [Act.put, pA, pB, pC])
   refine take_met 5 (oi := ⟨_, _, _, _, _, _⟩) (v := ?_) (by kernel_rfl) rfl (by rfl) (fun _ _ _ h => h) (by assumption) ?_ ?_
   rotate_left 1
   ·intro w hSw
    try dsimp only at hSw
    go_simp
    try with_reducible rfl
   (try simp only [Act.put, pA, pB, pC])
   refine take_only 1 (oi := ⟨_, _, _, _, _, _⟩) (by kernel_rfl) rfl (fun K hK => ?_)
   go_simp
   have hOld := hHeld
   clear hHeld
   refine hK.out _ _ (by exact HSt.out _ (by repeat (first | with_reducible exact Gr2.refl | ((with_reducible refine Gr2.setL ?_ _ _)) | ((with_reducible refine Gr2.setR ?_ _ _)) | ((with_reducible refine Gr2.ext ?_ _)) | ((with_reducible refine Gr2.alloc ?_ _)) | ((with_reducible refine Gr2.drew ?_))))) (fun hHeld => ?_)
   clear hOld hK K
   (try simp only [Act.put, pA, pB, pC])
   refine take_only 6 (oi := ⟨_, _, _, _, _, _⟩) (by kernel_rfl) rfl (fun K hK => ?_)
   go_simp
   first
    | (go_at_call 7; refine (HRn.out _ (show Ext Y _ by (show Ext _ _; repeat with_reducible first | (refine xH ?_; assumption) | exact xR _ | refine xX ?_ _ | refine xA ?_ _ | refine xD ?_ | refine xS ?_ (by (try dsimp only); first | omega | (simp; done) | (simp; omega)) _))).mono ?_; rintro e w' ⟨v, la2, sa2, lc2, sc2, rfl, hv, hn1, hn2, ⟨r10, rfl⟩⟩; have hvv := hv.val; subst hvv; have HV2 := hid hv; have HNl := hid hn1; have HNs := hid hn2; clear hv hn1 hn2; simp only [acE])
   have hOld := hHeld
   clear hHeld
   refine hK.out _ _ (by exact HSt.out _ (by repeat (first | with_reducible exact Gr2.refl | ((with_reducible refine Gr2.setL ?_ _ _)) | ((with_reducible refine Gr2.setR ?_ _ _)) | ((with_reducible refine Gr2.ext ?_ _)) | ((with_reducible refine Gr2.alloc ?_ _)) | ((with_reducible refine Gr2.drew ?_))))) (fun hHeld => ?_)
   clear hOld hK K
   (try simp only [Act.put, pA, pB, pC])
   refine take_met 7 (oi := ⟨_, _, _, _, _, _⟩) (v := ?_) (by kernel_rfl) rfl (by rfl) (fun _ _ _ h => h) (by assumption) ?_ ?_
   rotate_left 1
   ·intro w hSw
    try dsimp only at hSw
    go_simp
    try with_reducible rfl
   (try simp only [Act.put, pA, pB, pC])
   refine take_met 8 (oi := ⟨_, _, _, _, _, _⟩) (v := ?_) (by kernel_rfl) rfl (by rfl) (fun _ _ _ h => h) (by assumption) ?_ ?_
   rotate_left 1
   ·intro w hSw
    try dsimp only at hSw
    go_simp
    try with_reducible rfl
   (try simp only [Act.put, pA, pB, pC])
   refine take_met 9 (oi := ⟨_, _, _, _, _, _⟩) (v := ?_) (by kernel_rfl) rfl (by rfl) (fun _ _ _ h => h) (by assumption) ?_ ?_
   rotate_left 1
   ·intro w hSw
    try dsimp only at hSw
    go_simp
    try with_reducible rfl
   (try simp only [Act.put, pA, pB, pC])
   refine take_only 10 (oi := ⟨_, _, _, _, _, _⟩) (by kernel_rfl) rfl (fun K hK => ?_)
   go_simp
   have hOld := hHeld
   clear hHeld
   refine hK.out _ _ (by exact HSt.out _ (by repeat (first | with_reducible exact Gr2.refl | ((with_reducible refine Gr2.setL ?_ _ _)) | ((with_reducible refine Gr2.setR ?_ _ _)) | ((with_reducible refine Gr2.ext ?_ _)) | ((with_reducible refine Gr2.alloc ?_ _)) | ((with_reducible refine Gr2.drew ?_))))) (fun hHeld => ?_)
   clear hOld hK K
   (try simp only [Act.put, pA, pB, pC])
   refine take_only 11 (oi := ⟨_, _, _, _, _, _⟩) (by kernel_rfl) rfl (fun K hK => ?_)
   go_simp
   have hOld := hHeld
   clear hHeld
   refine hK.out _ _ (by exact HSt.out _ (by repeat (first | with_reducible exact Gr2.refl | ((with_reducible refine Gr2.setL ?_ _ _)) | ((with_reducible refine Gr2.setR ?_ _ _)) | ((with_reducible refine Gr2.ext ?_ _)) | ((with_reducible refine Gr2.alloc ?_ _)) | ((with_reducible refine Gr2.drew ?_))))) (fun hHeld => ?_)
   clear hOld hK K
   (try simp only [Act.put, pA, pB, pC])
   refine wpAnyH_done (by kernel_rfl) ?_ _
   obtain ⟨V, hV, hV7, hV8, _, W1, hg1, hg2⟩ := st16 (HY7.out.ext r10) (HY8.out.ext r10) (by omega) (.int .i64 ph2) (.int .i64 i2) (.int .i64 j2) (.int .i64 n1) (.int .u32 n2) (.int .u32 n3) (.slice la2 ld2.length lc2) (.slice sa2 st2.length sc2) (.int .i64 op2) (.int .i64 at2) (.int .i64 0) (.int .u32 0) (.int .u32 0) (.int .i64 a2) (.int .u32 a5) (.int .u32 a6)
   rw [hV]
   clear hV hHeld x0 x1 x2 x3 x4 x5 x6 x7 xg xf y0 y1 y2 y3 y4 y5 y6 y7 yf yg mg eg HSt
   have hhb := HHb.out
   have hbb := hbnd.out
   have hhx := HwX.out.size
   have hxs := HXs.out
   have hry := HRY.out.size
   have hxy := HXY.out.size
   have hx9 := HX9.out.1
   have h91 : b9 < wr.heap.size := HA.out.tk9.1
   have hq7 : q ≠ b7 := by omega
   have hq8 : q ≠ b7 + 1 := by omega
   have hq9 : q ≠ b9 := by omega
   have hz7 : b9 ≠ b7 := by omega
   have hz8 : b9 ≠ b7 + 1 := by omega
   have hVq := ((HYq.out.ext r10).grn hg1 hq7).grn hg2 hq8
   have hV9 := ((HY9.out.ext r10).grn hg1 hz7).grn hg2 hz8
   have hst : ∀ (a : Addr) (m : Mode) (w : World), (store a nv' m).run Tryd.prog w = stored Tryd.prog w a nv' m := fun a m w => run_store _ w a nv' m (by rw [← hnn.out.1]; cases (decide (ph2 = 12)) <;> rfl)
   obtain ⟨u0, u1, u2, u3, u4, u5, u6, u7, u8, u9, u10⟩ := Blk.at11 hVq
   have ug := hVq.1
   obtain ⟨v0, v1, v2, v3, v4, v5, v6, v7, v8, v9, v10⟩ := Blk.at11 hV9
   have vg := hV9.1
   have vf := hV9.2.1
   have HV7 := hid hV7
   have HV8 := hid hV8
   have HV9 := hid hV9
   have HG1 := hid hg1
   have HG2 := hid hg2
   have HQs := hid (And.intro hq9 (And.intro hz7 hz8))
   have HBs := hid (And.intro hhb (And.intro hbb (And.intro hxs (And.intro hry (And.intro hxy (And.intro hx9 (And.intro h91 HDb.out)))))))
   clear hV7 hV8 hV9 hVq hg1 hg2 hq7 hq8 hq9 hz7 hz8 hhb hbb hhx hxs hry hxy hx9 h91 hbg
   go_wp2_with fail
   obtain ⟨Z, hZ, hZ9, hg9⟩ := st11 HV9.out (.iface 81 cv') nv' (.int .i64 z0) (.int .i64 z1) (.int .i64 z2) (.int .u32 z3) (.int .u32 z4) (.int .i64 z5) (.int .u32 z6) (.int .u32 z7) (.slice (some g1') (k + 1) c1')
   rw [hZ]
   clear hZ hst u0 u1 u2 u3 u4 u5 u6 u7 u8 u9 u10 ug v0 v1 v2 v3 v4 v5 v6 v7 v8 v9 v10 vg vf
   obtain ⟨hq9, hz7, hz8⟩ := HQs.out
   obtain ⟨⟨hb1, hb2⟩, ⟨hb3, hb4⟩, hb5, hb6, hb7, hb8, hb9, hb10⟩ := HBs.out
   have hwy := HWY.out.size
   have hg1 := HG1.out
   have hg2 := HG2.out
   have hsz : (ext Y r10).heap.size ≤ Z.heap.size := Nat.le_trans hg1.size (Nat.le_trans hg2.size hg9.size)
   have hys : Y.heap.size ≤ (ext Y r10).heap.size := by simp
   have hag : Agr (fun j => NB b7 b9 j ∧ j < wr.heap.size) X.heap.size wc Z :=
    Agr.ext (HWY.out.trans ⟨r10, rfl⟩) (Agr.grn hg1 (Agr.grn hg2 (Agr.grn hg9 (Agr.refl _ X.heap.size Z) (Nat.le_refl _) (fun h => h.1.2.2 rfl) (by omega)) (Nat.le_refl _) (fun h => h.1.2.1 rfl) (by omega)) (Nat.le_refl _) (fun h => h.1.1 rfl) (by omega))
   have hnw : ∀ (a a2 : Option Addr), Nw Y.drew.heap.size a a2 → (∀ d, a = some d → NB b7 b9 d.block ∧ d.block < wr.heap.size) → ∀ d, a2 = some d → NB b7 b9 d.block := by
    intro a a2 hn ha d hd
    have hyd : Y.drew.heap.size = Y.heap.size := rfl
    rcases hn with rfl | rfl | ⟨d', hd', hz⟩
    ·exact (ha d hd).1
    ·cases hd
    ·rw [hd'] at hd; cases hd
     exact ⟨by omega, by omega, by omega⟩
   have hla := hnw la la2 HNl.out HA.out.lb
   have hsa := hnw sa sa2 HNs.out HA.out.sb
   have hcell : ∀ {α : Type} {size : Nat} {enc : α → List Value} {v : Value} {l : List α}, (∀ x, (enc x).length = size) → Sl (ext Y r10) size enc v l → (∀ a n c, v = .slice (some a) n c → NB b7 b9 a.block) → Sl Z size enc v l := by
    intro α size enc v l henc h hv
    exact Sl.grnV henc (Sl.grnV henc (Sl.grnV henc h hg1 (fun a n c he => (hv a n c he).1)) hg2 (fun a n c he => (hv a n c he).2.1)) hg9 (fun a n c he => (hv a n c he).2.2)
   have HAK := hid (show AskR b7 b9 D (k + 1) Z ⟨ph2, i2, j2, (n1, n2, n3), ld2, st2⟩ c' cv' nv' ⟨z0, z1, (z2, z3, z4), z5, z6, z7⟩ (op2, at2, (a2, a5, a6)) la2 sa2 (some g1') lc2 sc2 c1' (gs ++ [((g1, g2, g3), gok)]) from {
    ext := Ext.grn (Ext.grn (Ext.grn (HDY.out.trans ⟨r10, rfl⟩) hg1 (by omega)) hg2 (by omega)) hg9 (by omega)
    st7 := HV7.out.grn hg9 (fun h => hz7 h.symm)
    at8 := HV8.out.grn hg9 (fun h => hz8 h.symm)
    tk9 := hZ9
    hnv := hnn.out.1
    hna := hnn.out.2
    rel := HRl.out
    cw := (Cw.agr hcw.out hag).imp (fun j h => by
     rcases h with h | h
     ·exact h.1
     ·exact ⟨by omega, by omega, by omega⟩)
    ld := hcell wdE_len HV2.out.ld (fun a n c he => by simp only [Value.slice.injEq] at he; exact hla a he.1)
    st := hcell locE_len HV2.out.st (fun a n c he => by simp only [Value.slice.injEq] at he; exact hsa a he.1)
    lb := fun d hd => ⟨hla d hd, Nat.lt_of_lt_of_le (HV2.out.lb d hd) hsz⟩
    sb := fun d hd => ⟨hsa d hd, Nat.lt_of_lt_of_le (HV2.out.sb d hd) hsz⟩
    gsl := hcell gtE_len (hsl.out.of gtE_len (HWY.out.trans ⟨r10, rfl⟩)) (fun a n c he => by simp only [Value.slice.injEq, Option.some.injEq] at he; rw [← he.1]; exact ⟨by omega, by omega, by omega⟩)
    gn := ⟨by simp [HA.out.gn.1], fun h => by cases h⟩
    gb := fun d hd => by cases hd; exact ⟨by omega, by omega, by omega⟩
    inv := HSi.out.1
    len := by have h1 := HSi.out.2; have h2 := HTl.out; have h3 := HA.out.len; omega
    bi := Nat.le_trans HKp.out.i (Nat.succ_le_succ HA.out.bi)
    bs := Nat.le_trans HKp.out.st (Nat.succ_le_succ HA.out.bs)
    bl := Nat.le_trans HKp.out.ld (Nat.succ_le_succ HA.out.bl)
    ldk := HKp.out.ldk HA.out.ldk
    metk := HKp.out.metk HA.out.metk })
   have hkk := HKL.out
   refine ⟨⟨k + 1, _, _, _, _, _, _, _, _, _, _, _, _, _, by omega, by go_num, HAK⟩, ?_⟩
   simp [intOf]
   omega
end Go.Proofs.YtdpbcfjfnclpiaaDoor
