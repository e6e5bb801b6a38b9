/- The walk of the statement DescReads. -/
import Derived.Test.YtojcojghnhibmaaDoorAwkB
import Derived.Test.YtojcojghnhibmaaDoorPlanB
import Derived.Test.YtojcojghnhibmaaDoorSlD
import Derived.Test.YtojcojghnhibmaaDoorRefC
import Derived.Test.YtojcojghnhibmaaDoorDescH
import Derived.Test.YtojcojghnhibmaaDoorOwn
import Derived.Deep.DeepCutAuto
namespace Go.Proofs.YtojcojghnhibmaaDoor
set_option linter.unusedSimpArgs false
set_option linter.unusedVariables false
open Go.RowKit

set_option maxRecDepth 100000 in
set_option maxHeartbeats 4000000 in
theorem dreads_any (x y z : Int) (hx : 0 ≤ x ∧ x ≤ 255) (hy : 0 ≤ y ∧ y ≤ 255) (hz : 0 ≤ z ∧ z ≤ 255)
    (ua qa ta : Int) (va : Value) (ea : List En) (hua : -9223372036854775808 ≤ ua ∧ ua ≤ 9223372036854775807)
    (pv : Value) (pl : List Pt) (w : World) (hs : Szs w) (hva : Es w va ea) (hoka : ∀ e ∈ ea, EnOk e) (hpv : Sl w 4 ptE pv pl) (hokp : ∀ a ∈ pl, PtOk a) :
    Calls Tryd.prog 3 #[.agg #[.int .u8 x, .int .u8 y, .int .u8 z], .agg #[.int .i64 ua, .int .i64 qa, .int .i64 ta, va], pv] w fun e w' => e = .returned (.bool true) ∧ ∃ r, w' = ext w r := by
  have HS := hid hs
  obtain ⟨ha1, ha2⟩ := hua
  have HX := hid hx
  have HY := hid hy
  have HZ := hid hz
  have HVA := hid hva
  have HOA := hid hoka
  have HPV := hid hpv
  have HOP := hid hokp
  obtain ⟨aa, ca, rfl, _, _⟩ := hva
  obtain ⟨ap, cp, rfl, _, _⟩ := hpv
  clear hs hx hy hz hoka hokp
  by_cases hga : (40 : Int) < (ea.length : Int)
  · have hg : decide ((40 : Int) < (ea.length : Int)) = true := decide_eq_true hga
    go_enter Tryd.func3, Tryd.ntmps3
    go_wp2_with fail
    refine (great_any aa ea.length ca _).mono ?_
    rintro e w' ⟨rfl, r1, rfl⟩
    rw [hg]
    go_wp2_with fail
    refine (dawake_any _ (HS.out.of (by (show Ext _ _; repeat (first | with_reducible (refine Hid.out ?_; assumption) | with_reducible exact Ext.refl _ | with_reducible refine Ext.ext ?_ _ | with_reducible refine Ext.alloc ?_ _ | refine Ext.drew ?_ | refine Ext.drewN ?_ _ | exact Ext.refl _))))).mono ?_
    rintro e w' ⟨rfl, r6, rfl⟩
    go_wp2_with fail
    go_ret
    exact ⟨rfl, by (show Ext _ _; repeat (first | with_reducible (refine Hid.out ?_; assumption) | with_reducible exact Ext.refl _ | with_reducible refine Ext.ext ?_ _ | with_reducible refine Ext.alloc ?_ _ | refine Ext.drew ?_ | refine Ext.drewN ?_ _ | exact Ext.refl _))⟩
  have hg1 : decide ((40 : Int) < (ea.length : Int)) = false := decide_eq_false hga
  by_cases hgb : (40 : Int) < (pl.length : Int)
  · go_enter Tryd.func3, Tryd.ntmps3
    go_wp2_with fail
    refine (great_any aa ea.length ca _).mono ?_
    rintro e w' ⟨rfl, r1, rfl⟩
    rw [hg1]
    go_wp2_with fail
    refine (dawake_any _ (HS.out.of (by (show Ext _ _; repeat (first | with_reducible (refine Hid.out ?_; assumption) | with_reducible exact Ext.refl _ | with_reducible refine Ext.ext ?_ _ | with_reducible refine Ext.alloc ?_ _ | refine Ext.drew ?_ | refine Ext.drewN ?_ _ | exact Ext.refl _))))).mono ?_
    rintro e w' ⟨rfl, r6, rfl⟩
    go_wp2_with fail
    go_ret
    exact ⟨rfl, by (show Ext _ _; repeat (first | with_reducible (refine Hid.out ?_; assumption) | with_reducible exact Ext.refl _ | with_reducible refine Ext.ext ?_ _ | with_reducible refine Ext.alloc ?_ _ | refine Ext.drew ?_ | refine Ext.drewN ?_ _ | exact Ext.refl _))⟩
  clear hga
  go_enter Tryd.func3, Tryd.ntmps3
  go_wp2_with fail
  refine (great_any aa ea.length ca _).mono ?_
  rintro e w' ⟨rfl, r1, rfl⟩
  rw [hg1]
  go_wp2_with fail
  refine (plan_any x y z HX.out HY.out HZ.out _ (HS.out.of (by (show Ext _ _; repeat (first | with_reducible (refine Hid.out ?_; assumption) | with_reducible exact Ext.refl _ | with_reducible refine Ext.ext ?_ _ | with_reducible refine Ext.alloc ?_ _ | refine Ext.drew ?_ | refine Ext.drewN ?_ _ | exact Ext.refl _))))).mono ?_
  rintro e w' ⟨T, C, B, sl, rm, sz, v, ⟨hT1, hT4⟩, ⟨hC1, hC4⟩, hB4, hsl, hrm, hsz, rfl, ⟨r3, rfl⟩, hsv⟩
  obtain ⟨hck, h7⟩ := plan_ok (T := T) (C := C) (B := B) (by omega) (by omega) (by omega)
  have hr : rightN T C B = true := by unfold rightN; rw [hck]; rfl
  have hszn : (sz : Int) = sizeN T C B := by unfold sizeN; rw [if_pos hr]; exact hsz
  have HPl := hid (place_law hr (by omega) hsl hrm ua ha1 ha2)
  have HRdl := hid (fun (l : List Wd) (hl : l.length = sz) => rread_law hr (by omega) hsl hrm hszn l hl ua ha1 ha2)
  have hfl := from_le7 (right_lok hr).1
  have hslb : (sl : Int) ≤ 100000 := by omega
  have hrmb : (rm : Int) ≤ 100000 := by rw [hrm]; split <;> omega
  generalize hWP : ext _ r3 = WP at *
  have HEp := hid (show Ext w WP by rw [← hWP]; (show Ext _ _; repeat (first | with_reducible (refine Hid.out ?_; assumption) | with_reducible exact Ext.refl _ | with_reducible refine Ext.ext ?_ _ | with_reducible refine Ext.alloc ?_ _ | refine Ext.drew ?_ | refine Ext.drewN ?_ _ | exact Ext.refl _)))
  have HBaP := hid (show Blk WP (w.heap.size + 1) [.int .i64 ua, .int .i64 qa, .int .i64 ta, .slice aa ea.length ca] by rw [← hWP]; (show Blk _ _ _; repeat (first | with_reducible (refine Hid.out ?_; assumption) | with_reducible refine Blk.drew ?_ | with_reducible refine Blk.ext ?_ _ | (with_reducible refine Blk.new _ _ rfl ?_; first | with_reducible rfl | (simp; done)) | with_reducible refine Blk.alloc ?_ _ | with_reducible assumption | with_reducible apply Blk.setE | (with_reducible refine Blk.other' ?_ ?_; first | omega | (simp; omega)) | (show List.set _ _ _ = _; exact rfl) | (show _ < List.length _; simp; done))))
  have HPs := hid hsv
  obtain ⟨av, cv, rfl, _, _⟩ := hsv
  have hwp : w.heap.size + 2 ≤ WP.heap.size := by rw [← hWP]; simp; omega
  have HCk := hid hck
  have hFl := firstL_len hr
  have hFn : ((firstL T C B).length : Int) ≤ 2000 := by rw [hFl]; unfold sizeN; rw [if_pos hr]; exact h7
  have HF := hid hFl
  have hF0 : 0 < (firstL T C B).length := by rw [← hszn] at hFl; omega
  have HSz := hid hszn
  clear hWP hsl hrm hsz hck h7 hfl hszn
  generalize hna : w.heap.size + 1 = na at *
  go_wp2_with fail
  refine (first_any T C B _ (HS.out.of (HEp.out.trans (by (show Ext _ _; repeat (first | with_reducible (refine Hid.out ?_; assumption) | with_reducible exact Ext.refl _ | with_reducible refine Ext.ext ?_ _ | with_reducible refine Ext.alloc ?_ _ | refine Ext.drew ?_ | refine Ext.drewN ?_ _ | exact Ext.refl _)))))).mono ?_
  rintro e w' ⟨v8, rfl, ⟨r4, rfl⟩, hv8⟩
  obtain ⟨L, hL⟩ : ∃ L, L = firstL T C B := ⟨_, rfl⟩
  rw [← hL] at hv8 HF hFn hF0
  have HLok := hid (show ∀ a ∈ L, WdOk a by rw [hL]; exact firstL_ok _ _ _)
  obtain ⟨g, c8, rfl, hgl, hgs⟩ := Ws.open hv8 hF0
  have hgl2 : WP.heap.size + 1 < g := by simp at hgl; omega
  clear hL hFl hF0
  generalize hU : ext _ r4 = U at *
  have HEPU := hid (show Ext WP U by rw [← hU]; (show Ext _ _; repeat (first | with_reducible (refine Hid.out ?_; assumption) | with_reducible exact Ext.refl _ | with_reducible refine Ext.ext ?_ _ | with_reducible refine Ext.alloc ?_ _ | refine Ext.drew ?_ | refine Ext.drewN ?_ _ | exact Ext.refl _)))
  have HBl := hid (show Blk U WP.heap.size [.int .i64 T, .int .i64 C, .int .i64 B] by rw [← hU]; (show Blk _ _ _; repeat (first | with_reducible (refine Hid.out ?_; assumption) | with_reducible refine Blk.drew ?_ | with_reducible refine Blk.ext ?_ _ | (with_reducible refine Blk.new _ _ rfl ?_; first | with_reducible rfl | (simp; done)) | with_reducible refine Blk.alloc ?_ _ | with_reducible assumption | with_reducible apply Blk.setE | (with_reducible refine Blk.other' ?_ ?_; first | omega | (simp; omega)) | (show List.set _ _ _ = _; exact rfl) | (show _ < List.length _; simp; done))))
  have HBp := hid (show Blk U (WP.heap.size + 1) [.int .i64 T, .int .i64 B, .int .i64 sl, .int .i64 rm, .int .i64 104, .int .i64 32, .slice av (mayL T C B sz).length cv, .int .i64 sz] by rw [← hU]; (show Blk _ _ _; repeat (first | with_reducible (refine Hid.out ?_; assumption) | with_reducible refine Blk.drew ?_ | with_reducible refine Blk.ext ?_ _ | (with_reducible refine Blk.new _ _ rfl ?_; first | with_reducible rfl | (simp; done)) | with_reducible refine Blk.alloc ?_ _ | with_reducible assumption | with_reducible apply Blk.setE | (with_reducible refine Blk.other' ?_ ?_; first | omega | (simp; omega)) | (show List.set _ _ _ = _; exact rfl) | (show _ < List.length _; simp; done))))
  have HL := hid (show Ws U w.heap.size _ L from Own.mono hv8 (show w.heap.size ≤ _ by simp; omega))
  have HE := hid (HEp.out.trans HEPU.out)
  have HBa := hid (HBaP.out.of HEPU.out)
  generalize hnp : WP.heap.size + 1 = np at *
  generalize hnl : WP.heap.size = nl at *
  clear hU hv8 hgl HBaP
  obtain ⟨a0, a1, a2, a3⟩ := HBa.out.four
  have a4 := HBa.out.1
  obtain ⟨l0, l1, l2⟩ := HBl.out.three
  have l4 := HBl.out.1
  go_wp2_with fail
  refine (laid_any T C B ua qa ta HCk.out ha1 ha2 ea _ HOA.out L w.heap.size g c8 w _ HS.out HE.out HVA.out HL.out HF.out (by omega) (by omega) (by omega)).mono ?_
  rintro e V ⟨rfl, hG, hL1⟩
  have HEV := hid (HE.out.grn hG (by omega))
  have HEPV := hid (HEPU.out.grn hG (by omega))
  have HBaV := hid (HBa.out.grn hG (by omega))
  have HBlV := hid (HBl.out.grn hG (by omega))
  have HBpV := hid (HBp.out.grn hG (by omega))
  have hgV : g < V.heap.size := Nat.lt_of_lt_of_le hgs hG.size
  have hF1 : ((laidL T C B ua qa ta ea L).length : Int) = sizeN T C B := by rw [laidL_len]; exact HF.out
  have HR1 := hid (fun h => read_laid (who := ua) (seq := qa) (st := ta) (es := ea) h HF.out)
  have HLo1 := hid (laidL_ok (t := T) (c := C) (b := B) (who := ua) (seq := qa) (st := ta) HLok.out HOA.out)
  obtain ⟨L1, hL9⟩ : ∃ L1, L1 = laidL T C B ua qa ta ea L := ⟨_, rfl⟩
  have hlen : L1.length = L.length := by rw [hL9, laidL_len]
  rw [← hL9] at hL1 hF1 HR1 HLo1
  rw [← hlen] at hL1 hFn
  have HL1 := hid hL1
  have HF1 := hid hF1
  clear hL1 hF1 hG hL9 HL HF HE HBa HBl HBp HEPU a0 a1 a2 a3 a4 l0 l1 l2 l4 hgs HLok
  rw [← hlen]
  clear hlen
  go_upto_if 47 with fail
  go_cut [] (fun wx => Ext V wx)
  case first =>
    obtain ⟨a0, a1, a2, a3⟩ := HBaV.out.four
    have a4 := HBaV.out.1
    obtain ⟨l0, l1, l2⟩ := HBlV.out.three
    have l4 := HBlV.out.1
    by_cases hda : dcheckN T C B ua qa ta ea = 0
    · have hdb : (dcheckN T C B ua qa ta ea == 0) = true := by simpa using hda
      have HR := hid (HR1.out hda)
      have HSa := hid (show sameB ea ea = true from (sameB_iff ea ea).2 rfl)
      rw [hdb]
      clear hda
      go_wp2_with fail
      refine (read_any T C B ua ha1 ha2 L1 _ HLo1.out _ (HS.out.of (HEV.out.trans (by (show Ext _ _; repeat (first | with_reducible (refine Hid.out ?_; assumption) | with_reducible exact Ext.refl _ | with_reducible refine Ext.ext ?_ _ | with_reducible refine Ext.alloc ?_ _ | refine Ext.drew ?_ | refine Ext.drewN ?_ _ | exact Ext.refl _))))) ((Sl.of_own wdE_len HL1.out).of wdE_len (by (show Ext _ _; repeat (first | with_reducible (refine Hid.out ?_; assumption) | with_reducible exact Ext.refl _ | with_reducible refine Ext.ext ?_ _ | with_reducible refine Ext.alloc ?_ _ | refine Ext.drew ?_ | refine Ext.drewN ?_ _ | exact Ext.refl _))))).mono ?_
      rintro y w' ⟨⟨r5, rfl⟩, hy⟩
      rw [HR.out] at hy
      dsimp only at hy
      obtain ⟨x5, rfl, hx5⟩ := hy
      have HX5 := hid hx5
      obtain ⟨s5, c5, rfl, _, _⟩ := hx5
      go_wp2_with fail
      refine (same_any ea ea _ _ _ (HX5.out.of enE_len (by (show Ext _ _; repeat (first | with_reducible (refine Hid.out ?_; assumption) | with_reducible exact Ext.refl _ | with_reducible refine Ext.ext ?_ _ | with_reducible refine Ext.alloc ?_ _ | refine Ext.drew ?_ | refine Ext.drewN ?_ _ | exact Ext.refl _)))) (HVA.out.of enE_len (HEV.out.trans (by (show Ext _ _; repeat (first | with_reducible (refine Hid.out ?_; assumption) | with_reducible exact Ext.refl _ | with_reducible refine Ext.ext ?_ _ | with_reducible refine Ext.alloc ?_ _ | refine Ext.drew ?_ | refine Ext.drewN ?_ _ | exact Ext.refl _)))))).mono ?_
      rintro e w' ⟨rfl, r9, rfl⟩
      rw [HSa.out]
      go_wp2_with fail
      go_meet
      (show Ext _ _; repeat (first | with_reducible (refine Hid.out ?_; assumption) | with_reducible exact Ext.refl _ | with_reducible refine Ext.ext ?_ _ | with_reducible refine Ext.alloc ?_ _ | refine Ext.drew ?_ | refine Ext.drewN ?_ _ | exact Ext.refl _))
    · have hdb : (dcheckN T C B ua qa ta ea == 0) = false := by simpa using hda
      rw [hdb]
      go_wp2_with fail
      go_meet
      (show Ext _ _; repeat (first | with_reducible (refine Hid.out ?_; assumption) | with_reducible exact Ext.refl _ | with_reducible refine Ext.ext ?_ _ | with_reducible refine Ext.alloc ?_ _ | refine Ext.drew ?_ | refine Ext.drewN ?_ _ | exact Ext.refl _))
  case rest =>
  obtain ⟨Z, rfl⟩ : ∃ Z : World, Z = wc := ⟨_, rfl⟩
  have HEZ := hid (HEV.out.trans hcut)
  have HEPZ := hid (HEPV.out.trans hcut)
  have HBaZ := hid (HBaV.out.of hcut)
  have HBlZ := hid (HBlV.out.of hcut)
  have HBpZ := hid (HBpV.out.of hcut)
  have hgZ : g < Z.heap.size := Nat.lt_of_lt_of_le hgV hcut.size
  obtain ⟨⟨pa, pm⟩, hp⟩ : ∃ p, p = placeN T C B ua := ⟨_, rfl⟩
  have hbd := place_bd T C B ua
  have hroom := hid (fun h => place_room (t := T) (c := C) (b := B) (who := ua) h)
  have hmost := hid (fun h => place_most (t := T) (c := C) (b := B) (who := ua) ha1 ha2 h)
  have HNeg := hid (fun h => place_neg (t := T) (c := C) (b := B) (who := ua) h)
  have HRoom := hid (rroom (n := sizeN T C B) HPl.out (Int.le_refl _))
  have HPm := hid HPl.out
  rw [← hp] at hbd hroom HNeg HPl hmost
  dsimp only at hbd hroom HNeg hmost
  have HPe := hid hp
  have hszl : (sz : Int) = (L1.length : Int) := by rw [HSz.out, HF1.out]
  have hsl1 : L1.length = sz := by omega
  have HLZ := hid (show Ws Z w.heap.size (.slice (some ⟨g, 0, none⟩) sz c8) L1 by have := HL1.out.of hcut; rwa [hsl1] at this)
  rw [hsl1]
  have HS1 := hid hsl1
  rw [← HSz.out] at hroom
  have hcs : (pm = 0 ∧ pa = -1) ∨ (0 ≤ pa ∧ pm ≠ 0 ∧ pa + 32 ≤ (sz : Int)) := by
    by_cases h : pm = 0
    · have := HNeg.out h
      simp only [Prod.mk.injEq] at this
      exact .inl ⟨h, this.1⟩
    · have h1 := hroom.out h
      have h2 := hmost.out h
      exact .inr ⟨by omega, h, by omega⟩
  have HCs := hid hcs
  have hpb : pa ≤ 30000 := hbd.1.2
  clear hcut HEV HEPV HBaV HBlV HBpV HL1 hgV HNeg hroom hmost hbd hp HR1 hcs hszl hsl1
  go_wp2_with fail
  go_loopw [13] (fun i wr => ∃ j : Nat, j ≤ pl.length ∧ i = .int .i64 j ∧ Hid (Ws wr w.heap.size (.slice (some ⟨g, 0, none⟩) sz c8) (roomTo L1 pa pl j)) ∧ Hid (Grn g Z wr)) (fun i _ => pl.length - (intOf i).toNat)
  case atStart => exact ⟨0, by omega, rfl, HLZ, hid Grn.refl⟩
  case round =>
  clear HLZ
  obtain ⟨j, hj, rfl, HL, HG⟩ := hrel
  have HEw := hid (HEZ.out.grn HG.out (by omega))
  have HEPw := hid (HEPZ.out.grn HG.out (by omega))
  have HBaw := hid (HBaZ.out.grn HG.out (by omega))
  have HBlw := hid (HBlZ.out.grn HG.out (by omega))
  have HBpw := hid (HBpZ.out.grn HG.out (by omega))
  have hgw : g < wr.heap.size := Nat.lt_of_lt_of_le hgZ HG.out.size
  obtain ⟨a0, a1, a2, a3⟩ := HBaw.out.four
  have a4 := HBaw.out.1
  obtain ⟨l0, l1, l2⟩ := HBlw.out.three
  have l4 := HBlw.out.1
  obtain ⟨p0, p1, p2, p3, p4, p5, p6, p7⟩ := HBpw.out.eight
  have p8 := HBpw.out.1
  by_cases hjl : j < pl.length
  · have hd : decide (j < pl.length) = true := decide_eq_true hjl
    have hx := List.getElem?_eq_getElem hjl
    generalize pl[j] = x at hx
    obtain ⟨⟨hx0, hx1⟩, _⟩ := HOP.out x (List.mem_of_getElem? hx)
    have HXj := hid hx
    have hjj : (j : Int) < (pl.length : Int) := by omega
    obtain ⟨_, b0, o, hab, hbl, hcs⟩ := Sl.at HPV.out hx
    subst hab
    obtain ⟨x0, x1, x2, x3⟩ := x
    dsimp only at hx0 hx1
    have k0 := hcs 0 (by omega)
    have k1 := hcs 1 (by omega)
    have k2 := hcs 2 (by omega)
    have k3 := hcs 3 (by omega)
    simp [ptE] at k0 k1 k2 k3
    clear hcs hx
    go_wp2_with fail
    refine (rplace_any T B sl rm ua _ sz (by omega) (by omega) ⟨by omega, hslb⟩ ⟨by omega, hrmb⟩ _).mono ?_
    rintro e w' ⟨rfl, r2, rfl⟩
    rw [HPl.out]
    dsimp only
    by_cases hpa : 0 ≤ pa
    · have hrm := hid (show pa + 32 ≤ (sz : Int) by have := HCs.out; omega)
      have HA := hid (roomTo_yes (L := L1) HXj.out hpa)
      obtain ⟨p, rfl⟩ := Int.eq_ofNat_of_zero_le hpa
      obtain ⟨q, hq⟩ := Int.eq_ofNat_of_zero_le (Int.emod_nonneg x0 (show (12 : Int) ≠ 0 by omega))
      have hqn : x0 % 12 < 12 := Int.emod_lt_of_pos _ (by omega)
      rw [hq] at hqn
      have ht : x0.tmod 12 = (q : Int) := by rw [Int.tmod_eq_emod_of_nonneg hx0]; exact hq
      have hwx : IntKind.i64.wrap x0 = x0 := IntWalk.i64_in _ (by omega)
      have hwq : IntKind.i64.wrap ((p : Int) + (q : Int)) = (p : Int) + (q : Int) := IntWalk.i64_in _ (by omega)
      have t0 : (0 : Int) ≤ (p : Int) + (q : Int) := by omega
      have t1 : ((p : Int) + (q : Int)).toNat = p + q := by omega
      have t2 : (p : Int) + (q : Int) < (sz : Int) := by have := hrm.out; omega
      have hlen : (roomTo L1 p pl j).length = sz := by rw [roomTo_len]; exact HS1.out
      have HLn := hid hlen
      have HPQ := hid (show p + q < sz by omega)
      obtain ⟨⟨y1, y2, y3⟩, hy⟩ : ∃ y, (roomTo L1 p pl j)[p + q]? = some y := ⟨_, List.getElem?_eq_getElem (by rw [hlen]; exact HPQ.out)⟩
      obtain ⟨m0, m1, m2⟩ := Ws.cells HL.out hy
      have f0 := Ws.free HL.out ((p + q) * 3)
      have f1 := Ws.free HL.out ((p + q) * 3 + 1)
      have f2 := Ws.free HL.out ((p + q) * 3 + 2)
      have HQ := hid hq
      clear hlen hy hq
      go_wp2_with fail
      refine wp_region_held_drew (S := fun w' => w'.cell? ⟨b0, o + j * 4, none⟩ = some (.int .u16 x0) ∧ w'.cell? ⟨b0, o + j * 4 + 1, none⟩ = some (.int .i64 x1) ∧ w'.cell? ⟨b0, o + j * 4 + 2, none⟩ = some (.int .u32 x2) ∧ w'.cell? ⟨b0, o + j * 4 + 3, none⟩ = some (.int .u32 x3)) (by kernel_rfl) (by exact ⟨(show Ext w _ by (show Ext _ _; repeat (first | with_reducible (refine Hid.out ?_; assumption) | with_reducible exact Ext.refl _ | with_reducible refine Ext.ext ?_ _ | with_reducible refine Ext.alloc ?_ _ | with_reducible refine Ext.drew ?_ | with_reducible refine Ext.setCell ?_ (by (try dsimp only); first | omega | (simp; done) | (simp; omega)) _))).cell k0, (show Ext w _ by (show Ext _ _; repeat (first | with_reducible (refine Hid.out ?_; assumption) | with_reducible exact Ext.refl _ | with_reducible refine Ext.ext ?_ _ | with_reducible refine Ext.alloc ?_ _ | with_reducible refine Ext.drew ?_ | with_reducible refine Ext.setCell ?_ (by (try dsimp only); first | omega | (simp; done) | (simp; omega)) _))).cell k1, (show Ext w _ by (show Ext _ _; repeat (first | with_reducible (refine Hid.out ?_; assumption) | with_reducible exact Ext.refl _ | with_reducible refine Ext.ext ?_ _ | with_reducible refine Ext.alloc ?_ _ | with_reducible refine Ext.drew ?_ | with_reducible refine Ext.setCell ?_ (by (try dsimp only); first | omega | (simp; done) | (simp; omega)) _))).cell k2, (show Ext w _ by (show Ext _ _; repeat (first | with_reducible (refine Hid.out ?_; assumption) | with_reducible exact Ext.refl _ | with_reducible refine Ext.ext ?_ _ | with_reducible refine Ext.alloc ?_ _ | with_reducible refine Ext.drew ?_ | with_reducible refine Ext.setCell ?_ (by (try dsimp only); first | omega | (simp; done) | (simp; omega)) _))).cell k3⟩) (fun hHeld => ?_)
      refine take_met 0 (oi := ⟨_, _, _, _, _, _⟩) (v := ?_) (by kernel_rfl) rfl (by rfl) (fun _ _ _ h => h) (by assumption) ?_ ?_
      rotate_left 1
      · intro w hSw
        try dsimp only at hSw
        go_simp
        try with_reducible rfl
      (try simp only [Act.put, List.setIfInBounds_toArray, List.set_cons_zero, List.set_cons_succ])
      refine take_met 1 (oi := ⟨_, _, _, _, _, _⟩) (v := ?_) (by kernel_rfl) rfl (by rfl) (fun _ _ _ h => h) (by assumption) ?_ ?_
      rotate_left 1
      · intro w hSw
        try dsimp only at hSw
        go_simp
        try with_reducible rfl
      (try simp only [Act.put, List.setIfInBounds_toArray, List.set_cons_zero, List.set_cons_succ])
      refine take_met 2 (oi := ⟨_, _, _, _, _, _⟩) (v := ?_) (by kernel_rfl) rfl (by rfl) (fun _ _ _ h => h) (by assumption) ?_ ?_
      rotate_left 1
      · intro w hSw
        try dsimp only at hSw
        go_simp
        try with_reducible rfl
      (try simp only [Act.put, List.setIfInBounds_toArray, List.set_cons_zero, List.set_cons_succ])
      refine take_met 3 (oi := ⟨_, _, _, _, _, _⟩) (v := ?_) (by kernel_rfl) rfl (by rfl) (fun _ _ _ h => h) (by assumption) ?_ ?_
      rotate_left 1
      · intro w hSw
        try dsimp only at hSw
        go_simp
        try with_reducible rfl
      (try simp only [Act.put, List.setIfInBounds_toArray, List.set_cons_zero, List.set_cons_succ])
      refine take_met 4 (oi := ⟨_, _, _, _, _, _⟩) (v := ?_) (by kernel_rfl) rfl (by rfl) (fun _ _ _ h => h) (by assumption) ?_ ?_
      rotate_left 1
      · intro w hSw
        try dsimp only at hSw
        go_simp
        try with_reducible rfl
      (try simp only [Act.put, List.setIfInBounds_toArray, List.set_cons_zero, List.set_cons_succ])
      refine take_met 5 (oi := ⟨_, _, _, _, _, _⟩) (v := ?_) (by kernel_rfl) rfl (by rfl) (fun _ _ _ h => h) (by assumption) ?_ ?_
      rotate_left 1
      · intro w hSw
        try dsimp only at hSw
        go_simp
        try with_reducible rfl
      (try simp only [Act.put, List.setIfInBounds_toArray, List.set_cons_zero, List.set_cons_succ])
      refine take_met 6 (oi := ⟨_, _, _, _, _, _⟩) (v := ?_) (by kernel_rfl) rfl (by rfl) (fun _ _ _ h => h) (by assumption) ?_ ?_
      rotate_left 1
      · intro w hSw
        try dsimp only at hSw
        go_simp
        try with_reducible rfl
      (try simp only [Act.put, List.setIfInBounds_toArray, List.set_cons_zero, List.set_cons_succ])
      refine take_met 7 (oi := ⟨_, _, _, _, _, _⟩) (v := ?_) (by kernel_rfl) rfl (by rfl) (fun _ _ _ h => h) (by assumption) ?_ ?_
      rotate_left 1
      · intro w hSw
        try dsimp only at hSw
        go_simp
        try with_reducible rfl
      (try simp only [Act.put, List.setIfInBounds_toArray, List.set_cons_zero, List.set_cons_succ])
      refine take_met 8 (oi := ⟨_, _, _, _, _, _⟩) (v := ?_) (by kernel_rfl) rfl (by rfl) (fun _ _ _ h => h) (by assumption) ?_ ?_
      rotate_left 1
      · intro w hSw
        try dsimp only at hSw
        go_simp
        try with_reducible rfl
      (try simp only [Act.put, List.setIfInBounds_toArray, List.set_cons_zero, List.set_cons_succ])
      refine take_met 9 (oi := ⟨_, _, _, _, _, _⟩) (v := ?_) (by kernel_rfl) rfl (by rfl) (fun _ _ _ h => h) (by assumption) ?_ ?_
      rotate_left 1
      · intro w hSw
        try dsimp only at hSw
        go_simp
        try with_reducible rfl
      (try simp only [Act.put, List.setIfInBounds_toArray, List.set_cons_zero, List.set_cons_succ])
      refine take_met 10 (oi := ⟨_, _, _, _, _, _⟩) (v := ?_) (by kernel_rfl) rfl (by rfl) (fun _ _ _ h => h) (by assumption) ?_ ?_
      rotate_left 1
      · intro w hSw
        try dsimp only at hSw
        go_simp
        try with_reducible rfl
      (try simp only [Act.put, List.setIfInBounds_toArray, List.set_cons_zero, List.set_cons_succ])
      refine take_met 11 (oi := ⟨_, _, _, _, _, _⟩) (v := ?_) (by kernel_rfl) rfl (by rfl) (fun _ _ _ h => h) (by assumption) ?_ ?_
      rotate_left 1
      · intro w hSw
        try dsimp only at hSw
        go_simp
        try with_reducible rfl
      (try simp only [Act.put, List.setIfInBounds_toArray, List.set_cons_zero, List.set_cons_succ])
      refine take_met 12 (oi := ⟨_, _, _, _, _, _⟩) (v := ?_) (by kernel_rfl) rfl (by rfl) (fun _ _ _ h => h) (by assumption) ?_ ?_
      rotate_left 1
      · intro w hSw
        try dsimp only at hSw
        go_simp
        try with_reducible rfl
      (try simp only [Act.put, List.setIfInBounds_toArray, List.set_cons_zero, List.set_cons_succ])
      refine take_met 13 (oi := ⟨_, _, _, _, _, _⟩) (v := ?_) (by kernel_rfl) rfl (by rfl) (fun _ _ _ h => h) (by assumption) ?_ ?_
      rotate_left 1
      · intro w hSw
        try dsimp only at hSw
        go_simp
        try with_reducible rfl
      (try simp only [Act.put, List.setIfInBounds_toArray, List.set_cons_zero, List.set_cons_succ])
      refine take_met 14 (oi := ⟨_, _, _, _, _, _⟩) (v := ?_) (by kernel_rfl) rfl (by rfl) (fun _ _ _ h => h) (by assumption) ?_ ?_
      rotate_left 1
      · intro w hSw
        try dsimp only at hSw
        go_simp
        try with_reducible rfl
      (try simp only [Act.put, List.setIfInBounds_toArray, List.set_cons_zero, List.set_cons_succ])
      refine take_met 15 (oi := ⟨_, _, _, _, _, _⟩) (v := ?_) (by kernel_rfl) rfl (by rfl) (fun _ _ _ h => h) (by assumption) ?_ ?_
      rotate_left 1
      · intro w hSw
        try dsimp only at hSw
        go_simp
        try with_reducible rfl
      (try simp only [Act.put, List.setIfInBounds_toArray, List.set_cons_zero, List.set_cons_succ])
      refine take_only 16 (oi := ⟨_, _, _, _, _, _⟩) (by kernel_rfl) rfl (fun K hK => ?_)
      go_simp
      have hOld := hHeld
      clear hHeld
      refine hK.out _ _ (by exact ⟨(show Ext w _ by (show Ext _ _; repeat (first | with_reducible (refine Hid.out ?_; assumption) | with_reducible exact Ext.refl _ | with_reducible refine Ext.ext ?_ _ | with_reducible refine Ext.alloc ?_ _ | with_reducible refine Ext.drew ?_ | with_reducible refine Ext.setCell ?_ (by (try dsimp only); first | omega | (simp; done) | (simp; omega)) _))).cell k0, (show Ext w _ by (show Ext _ _; repeat (first | with_reducible (refine Hid.out ?_; assumption) | with_reducible exact Ext.refl _ | with_reducible refine Ext.ext ?_ _ | with_reducible refine Ext.alloc ?_ _ | with_reducible refine Ext.drew ?_ | with_reducible refine Ext.setCell ?_ (by (try dsimp only); first | omega | (simp; done) | (simp; omega)) _))).cell k1, (show Ext w _ by (show Ext _ _; repeat (first | with_reducible (refine Hid.out ?_; assumption) | with_reducible exact Ext.refl _ | with_reducible refine Ext.ext ?_ _ | with_reducible refine Ext.alloc ?_ _ | with_reducible refine Ext.drew ?_ | with_reducible refine Ext.setCell ?_ (by (try dsimp only); first | omega | (simp; done) | (simp; omega)) _))).cell k2, (show Ext w _ by (show Ext _ _; repeat (first | with_reducible (refine Hid.out ?_; assumption) | with_reducible exact Ext.refl _ | with_reducible refine Ext.ext ?_ _ | with_reducible refine Ext.alloc ?_ _ | with_reducible refine Ext.drew ?_ | with_reducible refine Ext.setCell ?_ (by (try dsimp only); first | omega | (simp; done) | (simp; omega)) _))).cell k3⟩) (fun hHeld => ?_)
      clear hOld hK K
      (try simp only [Act.put, List.setIfInBounds_toArray, List.set_cons_zero, List.set_cons_succ])
      refine wpAnyH_done (by kernel_rfl) ?_ _
      go_wp2_with fail
      go_roundw
      case rel => exact ⟨j + 1, by omega, by go_num, hid (by rw [HA.out, HQ.out, show ((p : Int) + (q : Int)).toNat = p + q by omega]; exact Ws.put (HL.out.of (by (show Ext _ _; repeat (first | with_reducible (refine Hid.out ?_; assumption) | with_reducible exact Ext.refl _ | with_reducible refine Ext.ext ?_ _ | with_reducible refine Ext.alloc ?_ _ | refine Ext.drew ?_ | refine Ext.drewN ?_ _ | exact Ext.refl _)))) (by rw [HLn.out]; exact HPQ.out) x1 x2 x3), hid ((((HG.out.ext r2).drew.setCell _ _).setCell _ _).setCell _ _)⟩
      case measure => simp [intOf]; omega
    · have HA := hid (roomTo_no (L := L1) HXj.out hpa)
      go_wp2_with fail
      go_roundw
      case rel => exact ⟨j + 1, by omega, by go_num, hid (by rw [HA.out]; exact HL.out.of (by (show Ext _ _; repeat (first | with_reducible (refine Hid.out ?_; assumption) | with_reducible exact Ext.refl _ | with_reducible refine Ext.ext ?_ _ | with_reducible refine Ext.alloc ?_ _ | refine Ext.drew ?_ | refine Ext.drewN ?_ _ | exact Ext.refl _)))), hid (HG.out.ext r2)⟩
      case measure => simp [intOf]; omega
  have hd : decide (j < pl.length) = false := decide_eq_false hjl
  obtain rfl : j = pl.length := by omega
  clear hjl hj
  obtain ⟨L2, hL2⟩ : ∃ L2, L2 = roomTo L1 pa pl pl.length := ⟨_, rfl⟩
  rw [← hL2] at HL
  have HLo2 := hid (show ∀ a ∈ L2, WdOk a by rw [hL2]; exact roomTo_ok HLo1.out HOP.out _)
  have hln2 : L2.length = L1.length := by rw [hL2, roomTo_len]
  have HF2 := hid (show (L2.length : Int) = sizeN T C B by rw [hln2]; exact HF1.out)
  have HRd := hid (HRdl.out L2 (by rw [hln2]; exact HS1.out))
  have HSl := hid (show Sl wr 3 wdE (.slice (some ⟨g, 0, none⟩) sz c8) L2 from Sl.of_own wdE_len HL.out)
  have hkn := readN_kinds (who := ua) HCk.out (show ¬ (L2.length : Int) < sizeN T C B by rw [HF2.out]; omega)
  rw [← HPe.out] at hkn
  dsimp only at hkn
  have HRoom2 := hid (show ¬ (rplaceN T B sl rm ua).1 < 0 → (rplaceN T B sl rm ua).1 ≤ 30000 ∧ (0 ≤ (rplaceN T B sl rm ua).2 ∧ (rplaceN T B sl rm ua).2 ≤ 32) ∧ (rplaceN T B sl rm ua).1 + 2 + 3 * (rplaceN T B sl rm ua).2 ≤ (L2.length : Int) by rw [HF2.out]; intro h; exact HRoom.out (by omega))
  have hcs3 : (∃ er, readN T C B L2 ua = (er, none) ∧ ((pa < 0 ∧ er = 3) ∨ (¬ pa < 0 ∧ er = 5))) ∨ (¬ pa < 0 ∧ ∃ seq st es, readN T C B L2 ua = (0, some (seq, st, es))) := by
    have := HCs.out
    rcases hkn with ⟨h1, h2⟩ | ⟨h1, h2 | h2⟩
    · exact .inl ⟨3, h2, .inl ⟨by omega, rfl⟩⟩
    · exact .inl ⟨5, h2, .inr ⟨by omega, rfl⟩⟩
    · exact .inr ⟨by omega, h2⟩
  clear hkn hL2 hln2
  rcases hcs3 with ⟨er, hN, hE⟩ | ⟨hpa, seq, st, es, hN⟩
  · have HN := hid hN
    clear hN
    have hz0 : (er != 0) = true := by rcases hE with ⟨_, rfl⟩ | ⟨_, rfl⟩ <;> rfl
    go_wp2_with fail
    refine (read_any T C B ua ha1 ha2 L2 _ HLo2.out _ (HS.out.of (HEw.out.trans (by (show Ext _ _; repeat (first | with_reducible (refine Hid.out ?_; assumption) | with_reducible exact Ext.refl _ | with_reducible refine Ext.ext ?_ _ | with_reducible refine Ext.alloc ?_ _ | refine Ext.drew ?_ | refine Ext.drewN ?_ _ | exact Ext.refl _))))) (HSl.out.of wdE_len (by (show Ext _ _; repeat (first | with_reducible (refine Hid.out ?_; assumption) | with_reducible exact Ext.refl _ | with_reducible refine Ext.ext ?_ _ | with_reducible refine Ext.alloc ?_ _ | refine Ext.drew ?_ | refine Ext.drewN ?_ _ | exact Ext.refl _))))).mono ?_
    rintro y w' ⟨⟨r5, rfl⟩, hy⟩
    rw [HN.out] at hy
    dsimp only at hy
    subst hy
    go_wp2_with fail
    refine (rread_any T B sl rm sz (by omega) (by omega) ⟨by omega, hslb⟩ ⟨by omega, hrmb⟩ (mayL T C B sz) _ ua L2 _ HLo2.out (fun h => HRoom2.out (by omega)) _ (HPs.out.of boE_len (HEPw.out.trans (by (show Ext _ _; repeat (first | with_reducible (refine Hid.out ?_; assumption) | with_reducible exact Ext.refl _ | with_reducible refine Ext.ext ?_ _ | with_reducible refine Ext.alloc ?_ _ | refine Ext.drew ?_ | refine Ext.drewN ?_ _ | exact Ext.refl _))))) (HSl.out.of wdE_len (by (show Ext _ _; repeat (first | with_reducible (refine Hid.out ?_; assumption) | with_reducible exact Ext.refl _ | with_reducible refine Ext.ext ?_ _ | with_reducible refine Ext.alloc ?_ _ | refine Ext.drew ?_ | refine Ext.drewN ?_ _ | exact Ext.refl _))))).mono ?_
    rw [HRd.out, HN.out]
    rintro y w' ⟨⟨r6, rfl⟩, q1, q2, q3, s6, n6, c6, rfl, _⟩
    simp only [Option.isSome_none]
    go_wp2_with fail
    refine (rplace_any T B sl rm ua _ sz (by omega) (by omega) ⟨by omega, hslb⟩ ⟨by omega, hrmb⟩ _).mono ?_
    rintro e w' ⟨rfl, r7, rfl⟩
    rw [HPl.out]
    dsimp only
    rcases hE with ⟨hpa, rfl⟩ | ⟨hpa, rfl⟩
    all_goals
      go_wp2_with fail
      refine (dawake_any _ (HS.out.of (HEw.out.trans (by (show Ext _ _; repeat (first | with_reducible (refine Hid.out ?_; assumption) | with_reducible exact Ext.refl _ | with_reducible refine Ext.ext ?_ _ | with_reducible refine Ext.alloc ?_ _ | refine Ext.drew ?_ | refine Ext.drewN ?_ _ | exact Ext.refl _)))))).mono ?_
      rintro e w' ⟨rfl, r8, rfl⟩
      go_wp2_with fail
      go_ret
      exact ⟨rfl, HEw.out.trans (by (show Ext _ _; repeat (first | with_reducible (refine Hid.out ?_; assumption) | with_reducible exact Ext.refl _ | with_reducible refine Ext.ext ?_ _ | with_reducible refine Ext.alloc ?_ _ | refine Ext.drew ?_ | refine Ext.drewN ?_ _ | exact Ext.refl _)))⟩
  · have HN := hid hN
    clear hN
    go_wp2_with fail
    refine (read_any T C B ua ha1 ha2 L2 _ HLo2.out _ (HS.out.of (HEw.out.trans (by (show Ext _ _; repeat (first | with_reducible (refine Hid.out ?_; assumption) | with_reducible exact Ext.refl _ | with_reducible refine Ext.ext ?_ _ | with_reducible refine Ext.alloc ?_ _ | refine Ext.drew ?_ | refine Ext.drewN ?_ _ | exact Ext.refl _))))) (HSl.out.of wdE_len (by (show Ext _ _; repeat (first | with_reducible (refine Hid.out ?_; assumption) | with_reducible exact Ext.refl _ | with_reducible refine Ext.ext ?_ _ | with_reducible refine Ext.alloc ?_ _ | refine Ext.drew ?_ | refine Ext.drewN ?_ _ | exact Ext.refl _))))).mono ?_
    rintro y w' ⟨⟨r5, rfl⟩, hy⟩
    rw [HN.out] at hy
    dsimp only at hy
    obtain ⟨x5, rfl, hx5⟩ := hy
    have HX5 := hid hx5
    obtain ⟨s5, c5, rfl, _, _⟩ := hx5
    go_wp2_with fail
    refine (rread_any T B sl rm sz (by omega) (by omega) ⟨by omega, hslb⟩ ⟨by omega, hrmb⟩ (mayL T C B sz) _ ua L2 _ HLo2.out (fun h => HRoom2.out (by omega)) _ (HPs.out.of boE_len (HEPw.out.trans (by (show Ext _ _; repeat (first | with_reducible (refine Hid.out ?_; assumption) | with_reducible exact Ext.refl _ | with_reducible refine Ext.ext ?_ _ | with_reducible refine Ext.alloc ?_ _ | refine Ext.drew ?_ | refine Ext.drewN ?_ _ | exact Ext.refl _))))) (HSl.out.of wdE_len (by (show Ext _ _; repeat (first | with_reducible (refine Hid.out ?_; assumption) | with_reducible exact Ext.refl _ | with_reducible refine Ext.ext ?_ _ | with_reducible refine Ext.alloc ?_ _ | refine Ext.drew ?_ | refine Ext.drewN ?_ _ | exact Ext.refl _))))).mono ?_
    rw [HRd.out, HN.out]
    rintro y w' ⟨⟨r6, rfl⟩, q1, q2, q3, s6, n6, c6, rfl, hq⟩
    obtain ⟨rfl, rfl, rfl, hx6⟩ := hq seq st es rfl
    have HX6 := hid hx6
    simp only [Option.isSome_some]
    clear hq
    go_wp2_with fail
    refine (rplace_any T B sl rm q1 _ sz (by omega) (by omega) ⟨by omega, hslb⟩ ⟨by omega, hrmb⟩ _).mono ?_
    rintro e w' ⟨rfl, r7, rfl⟩
    rw [HPl.out]
    dsimp only
    obtain ⟨s6', c6', he6, _, _⟩ := hx6
    simp only [Value.slice.injEq] at he6
    obtain ⟨rfl, rfl, rfl⟩ := he6
    go_upto_region 29 with fail
    generalize hY : ext _ r7 = Y
    have HEY := hid (show Ext wr Y by rw [← hY]; (show Ext _ _; repeat (first | with_reducible (refine Hid.out ?_; assumption) | with_reducible exact Ext.refl _ | with_reducible refine Ext.ext ?_ _ | with_reducible refine Ext.alloc ?_ _ | refine Ext.drew ?_ | refine Ext.drewN ?_ _ | exact Ext.refl _)))
    have HBx := hid (show Blk Y (wr.heap.size + r5.new.size) [.int .i64 q1, .int .i64 q2, .int .i64 q3, .slice s5 es.length c5] by rw [← hY]; (show Blk _ _ _; repeat (first | with_reducible (refine Hid.out ?_; assumption) | with_reducible refine Blk.drew ?_ | with_reducible refine Blk.ext ?_ _ | (with_reducible refine Blk.new _ _ rfl ?_; first | with_reducible rfl | (simp; done)) | with_reducible refine Blk.alloc ?_ _ | with_reducible assumption | with_reducible apply Blk.setE | (with_reducible refine Blk.other' ?_ ?_; first | omega | (simp; omega)) | (show List.set _ _ _ = _; exact rfl) | (show _ < List.length _; simp; done))))
    have HBy := hid (show Blk Y (wr.heap.size + r5.new.size + 1 + r6.new.size) [.int .i64 q1, .int .i64 q2, .int .i64 q3, .slice s6 es.length c6] by rw [← hY]; (show Blk _ _ _; repeat (first | with_reducible (refine Hid.out ?_; assumption) | with_reducible refine Blk.drew ?_ | with_reducible refine Blk.ext ?_ _ | (with_reducible refine Blk.new _ _ rfl ?_; first | with_reducible rfl | (simp; done)) | with_reducible refine Blk.alloc ?_ _ | with_reducible assumption | with_reducible apply Blk.setE | (with_reducible refine Blk.other' ?_ ?_; first | omega | (simp; omega)) | (show List.set _ _ _ = _; exact rfl) | (show _ < List.length _; simp; done))))
    have HX5Y := hid (HX5.out.of enE_len (show Ext _ Y by rw [← hY]; (show Ext _ _; repeat (first | with_reducible (refine Hid.out ?_; assumption) | with_reducible exact Ext.refl _ | with_reducible refine Ext.ext ?_ _ | with_reducible refine Ext.alloc ?_ _ | refine Ext.drew ?_ | refine Ext.drewN ?_ _ | exact Ext.refl _))))
    have HX6Y := hid (HX6.out.of enE_len (show Ext _ Y by rw [← hY]; (show Ext _ _; repeat (first | with_reducible (refine Hid.out ?_; assumption) | with_reducible exact Ext.refl _ | with_reducible refine Ext.ext ?_ _ | with_reducible refine Ext.alloc ?_ _ | refine Ext.drew ?_ | refine Ext.drewN ?_ _ | exact Ext.refl _))))
    generalize wr.heap.size + r5.new.size + 1 + r6.new.size = ny at *
    generalize wr.heap.size + r5.new.size = nx at *
    clear hY a0 a1 a2 a3 a4 l0 l1 l2 l4 p0 p1 p2 p3 p4 p5 p6 p7 p8
    have HEYw := hid (HEw.out.trans HEY.out)
    have HBaY := hid (HBaw.out.of HEY.out)
    have HSlY := hid (HSl.out.of wdE_len HEY.out)
    obtain ⟨hcap1, hcap2⟩ := HSlY.out.cap
    have hl8 : (8 : Int) ≤ sizeN T C B := by
      have := (from_le7 (right_lok hr).1).2.2.2.2
      unfold sizeN; rw [if_pos hr]; exact this
    have hs1 : (1 : Int) ≤ (sz : Int) := by have := HSz.out; omega
    have hc1 : ¬ c8 = 1 := by have := HSz.out; omega
    have HD1 := hid (Sl.dropB HSlY.out 1 (by omega) hc1)
    have HSh := hid (show ((L2.drop 1).length : Int) < sizeN T C B by rw [List.length_drop]; have := HF2.out; omega)
    clear hcap1 hcap2 hl8
    obtain ⟨a0, a1, a2, a3⟩ := HBaY.out.four
    have a4 := HBaY.out.1
    obtain ⟨l0, l1, l2⟩ := (HBlw.out.of HEY.out).three
    have l4 := (HBlw.out.of HEY.out).1
    go_cut [24] (fun f wx => f = .int .i64 1 ∧ Ext Y wx)
    case first =>
      refine wp_region_held_drew (S := fun w' => (w'.cell? ⟨nl, 0, none⟩ = some (.int .i64 T) ∧ w'.cell? ⟨nl, 1, none⟩ = some (.int .i64 C) ∧ w'.cell? ⟨nl, 2, none⟩ = some (.int .i64 B)) ∧ w'.cell? ⟨na, 0, none⟩ = some (.int .i64 q1)) (by kernel_rfl) (by exact ⟨⟨(show Ext Y _ by (show Ext _ _; repeat (first | with_reducible (refine Hid.out ?_; assumption) | with_reducible exact Ext.refl _ | with_reducible refine Ext.ext ?_ _ | with_reducible refine Ext.alloc ?_ _ | with_reducible refine Ext.drew ?_ | with_reducible refine Ext.setCell ?_ (by (try dsimp only); first | omega | (simp; done) | (simp; omega)) _))).cell l0, (show Ext Y _ by (show Ext _ _; repeat (first | with_reducible (refine Hid.out ?_; assumption) | with_reducible exact Ext.refl _ | with_reducible refine Ext.ext ?_ _ | with_reducible refine Ext.alloc ?_ _ | with_reducible refine Ext.drew ?_ | with_reducible refine Ext.setCell ?_ (by (try dsimp only); first | omega | (simp; done) | (simp; omega)) _))).cell l1, (show Ext Y _ by (show Ext _ _; repeat (first | with_reducible (refine Hid.out ?_; assumption) | with_reducible exact Ext.refl _ | with_reducible refine Ext.ext ?_ _ | with_reducible refine Ext.alloc ?_ _ | with_reducible refine Ext.drew ?_ | with_reducible refine Ext.setCell ?_ (by (try dsimp only); first | omega | (simp; done) | (simp; omega)) _))).cell l2⟩, (show Ext Y _ by (show Ext _ _; repeat (first | with_reducible (refine Hid.out ?_; assumption) | with_reducible exact Ext.refl _ | with_reducible refine Ext.ext ?_ _ | with_reducible refine Ext.alloc ?_ _ | with_reducible refine Ext.drew ?_ | with_reducible refine Ext.setCell ?_ (by (try dsimp only); first | omega | (simp; done) | (simp; omega)) _))).cell a0⟩) (fun hHeld => ?_)
      refine take_met 0 (oi := ⟨_, _, _, _, _, _⟩) (v := ?_) (by kernel_rfl) rfl (by rfl) (fun _ _ _ h => h) (by assumption) ?_ ?_
      rotate_left 1
      · intro w hSw
        try dsimp only at hSw
        go_simp
        try with_reducible rfl
      (try simp only [Act.put, List.setIfInBounds_toArray, List.set_cons_zero, List.set_cons_succ])
      refine take_met 1 (oi := ⟨_, _, _, _, _, _⟩) (v := ?_) (by kernel_rfl) rfl (by rfl) (fun _ _ _ h => h) (by assumption) ?_ ?_
      rotate_left 1
      · intro w hSw
        try dsimp only at hSw
        go_simp
        try with_reducible rfl
      (try simp only [Act.put, List.setIfInBounds_toArray, List.set_cons_zero, List.set_cons_succ])
      refine take_met 2 (oi := ⟨_, _, _, _, _, _⟩) (v := ?_) (by kernel_rfl) rfl (by rfl) (fun _ _ _ h => h) (by assumption) ?_ ?_
      rotate_left 1
      · intro w hSw
        try dsimp only at hSw
        go_simp
        try with_reducible rfl
      (try simp only [Act.put, List.setIfInBounds_toArray, List.set_cons_zero, List.set_cons_succ])
      refine take_met 3 (oi := ⟨_, _, _, _, _, _⟩) (v := ?_) (by kernel_rfl) rfl (by rfl) (fun _ _ _ h => h) (by assumption) ?_ ?_
      rotate_left 1
      · intro w hSw
        try dsimp only at hSw
        go_simp
        try with_reducible rfl
      (try simp only [Act.put, List.setIfInBounds_toArray, List.set_cons_zero, List.set_cons_succ])
      refine take_met 4 (oi := ⟨_, _, _, _, _, _⟩) (v := ?_) (by kernel_rfl) rfl (by rfl) (fun _ _ _ h => h) (by assumption) ?_ ?_
      rotate_left 1
      · intro w hSw
        try dsimp only at hSw
        go_simp
        try with_reducible rfl
      (try simp only [Act.put, List.setIfInBounds_toArray, List.set_cons_zero, List.set_cons_succ])
      refine wpAnyH_ready (rs := [5, 9]) (by kernel_rfl) (by simp) ?_
      refine AllReadyH.cons (o := ⟨_, _, _, _, _, _⟩) rfl (fun K hK => ?_) ?_
      · skip
        go_simp
        first
          | (go_at_call 14; refine (read_early T C B q1 ha1 ha2 (L2.drop 1) _ _ (HS.out.of (HEYw.out.trans (by (show Ext _ _; repeat (first | with_reducible (refine Hid.out ?_; assumption) | with_reducible exact Ext.refl _ | with_reducible refine Ext.ext ?_ _ | with_reducible refine Ext.alloc ?_ _ | refine Ext.drew ?_ | refine Ext.drewN ?_ _ | exact Ext.refl _))))) (HD1.out.of wdE_len (by (show Ext _ _; repeat (first | with_reducible (refine Hid.out ?_; assumption) | with_reducible exact Ext.refl _ | with_reducible refine Ext.ext ?_ _ | with_reducible refine Ext.alloc ?_ _ | refine Ext.drew ?_ | refine Ext.drewN ?_ _ | exact Ext.refl _)))) (.inl (.inr HSh.out))).mono ?_; rintro e w' ⟨rfl, _, r8, rfl⟩; rw [readN_short HSh.out])
        have hOld := hHeld
        clear hHeld
        refine hK.out _ _ (by exact ⟨⟨(show Ext Y _ by (show Ext _ _; repeat (first | with_reducible (refine Hid.out ?_; assumption) | with_reducible exact Ext.refl _ | with_reducible refine Ext.ext ?_ _ | with_reducible refine Ext.alloc ?_ _ | with_reducible refine Ext.drew ?_ | with_reducible refine Ext.setCell ?_ (by (try dsimp only); first | omega | (simp; done) | (simp; omega)) _))).cell l0, (show Ext Y _ by (show Ext _ _; repeat (first | with_reducible (refine Hid.out ?_; assumption) | with_reducible exact Ext.refl _ | with_reducible refine Ext.ext ?_ _ | with_reducible refine Ext.alloc ?_ _ | with_reducible refine Ext.drew ?_ | with_reducible refine Ext.setCell ?_ (by (try dsimp only); first | omega | (simp; done) | (simp; omega)) _))).cell l1, (show Ext Y _ by (show Ext _ _; repeat (first | with_reducible (refine Hid.out ?_; assumption) | with_reducible exact Ext.refl _ | with_reducible refine Ext.ext ?_ _ | with_reducible refine Ext.alloc ?_ _ | with_reducible refine Ext.drew ?_ | with_reducible refine Ext.setCell ?_ (by (try dsimp only); first | omega | (simp; done) | (simp; omega)) _))).cell l2⟩, (show Ext Y _ by (show Ext _ _; repeat (first | with_reducible (refine Hid.out ?_; assumption) | with_reducible exact Ext.refl _ | with_reducible refine Ext.ext ?_ _ | with_reducible refine Ext.alloc ?_ _ | with_reducible refine Ext.drew ?_ | with_reducible refine Ext.setCell ?_ (by (try dsimp only); first | omega | (simp; done) | (simp; omega)) _))).cell a0⟩) (fun hHeld => ?_)
        clear hOld hK K
        (try simp only [Act.put, List.setIfInBounds_toArray, List.set_cons_zero, List.set_cons_succ])
        refine take_met 6 (oi := ⟨_, _, _, _, _, _⟩) (v := ?_) (by kernel_rfl) rfl (by rfl) (fun _ _ _ h => h) (by assumption) ?_ ?_
        rotate_left 1
        · intro w hSw
          try dsimp only at hSw
          go_simp
          try with_reducible rfl
        (try simp only [Act.put, List.setIfInBounds_toArray, List.set_cons_zero, List.set_cons_succ])
        refine take_met 7 (oi := ⟨_, _, _, _, _, _⟩) (v := ?_) (by kernel_rfl) rfl (by rfl) (fun _ _ _ h => h) (by assumption) ?_ ?_
        rotate_left 1
        · intro w hSw
          try dsimp only at hSw
          go_simp
          try with_reducible rfl
        (try simp only [Act.put, List.setIfInBounds_toArray, List.set_cons_zero, List.set_cons_succ])
        refine take_met 8 (oi := ⟨_, _, _, _, _, _⟩) (v := ?_) (by kernel_rfl) rfl (by rfl) (fun _ _ _ h => h) (by assumption) ?_ ?_
        rotate_left 1
        · intro w hSw
          try dsimp only at hSw
          go_simp
          try with_reducible rfl
        (try simp only [Act.put, List.setIfInBounds_toArray, List.set_cons_zero, List.set_cons_succ])
        refine take_only 9 (oi := ⟨_, _, _, _, _, _⟩) (by kernel_rfl) rfl (fun K hK => ?_)
        go_simp
        have hOld := hHeld
        clear hHeld
        refine hK.out _ _ (by exact ⟨⟨(show Ext Y _ by (show Ext _ _; repeat (first | with_reducible (refine Hid.out ?_; assumption) | with_reducible exact Ext.refl _ | with_reducible refine Ext.ext ?_ _ | with_reducible refine Ext.alloc ?_ _ | with_reducible refine Ext.drew ?_ | with_reducible refine Ext.setCell ?_ (by (try dsimp only); first | omega | (simp; done) | (simp; omega)) _))).cell l0, (show Ext Y _ by (show Ext _ _; repeat (first | with_reducible (refine Hid.out ?_; assumption) | with_reducible exact Ext.refl _ | with_reducible refine Ext.ext ?_ _ | with_reducible refine Ext.alloc ?_ _ | with_reducible refine Ext.drew ?_ | with_reducible refine Ext.setCell ?_ (by (try dsimp only); first | omega | (simp; done) | (simp; omega)) _))).cell l1, (show Ext Y _ by (show Ext _ _; repeat (first | with_reducible (refine Hid.out ?_; assumption) | with_reducible exact Ext.refl _ | with_reducible refine Ext.ext ?_ _ | with_reducible refine Ext.alloc ?_ _ | with_reducible refine Ext.drew ?_ | with_reducible refine Ext.setCell ?_ (by (try dsimp only); first | omega | (simp; done) | (simp; omega)) _))).cell l2⟩, (show Ext Y _ by (show Ext _ _; repeat (first | with_reducible (refine Hid.out ?_; assumption) | with_reducible exact Ext.refl _ | with_reducible refine Ext.ext ?_ _ | with_reducible refine Ext.alloc ?_ _ | with_reducible refine Ext.drew ?_ | with_reducible refine Ext.setCell ?_ (by (try dsimp only); first | omega | (simp; done) | (simp; omega)) _))).cell a0⟩) (fun hHeld => ?_)
        clear hOld hK K
        (try simp only [Act.put, List.setIfInBounds_toArray, List.set_cons_zero, List.set_cons_succ])
        refine take_only 10 (oi := ⟨_, _, _, _, _, _⟩) (by kernel_rfl) rfl (fun K hK => ?_)
        go_simp
        have hOld := hHeld
        clear hHeld
        refine hK.out _ _ (by exact ⟨⟨(show Ext Y _ by (show Ext _ _; repeat (first | with_reducible (refine Hid.out ?_; assumption) | with_reducible exact Ext.refl _ | with_reducible refine Ext.ext ?_ _ | with_reducible refine Ext.alloc ?_ _ | with_reducible refine Ext.drew ?_ | with_reducible refine Ext.setCell ?_ (by (try dsimp only); first | omega | (simp; done) | (simp; omega)) _))).cell l0, (show Ext Y _ by (show Ext _ _; repeat (first | with_reducible (refine Hid.out ?_; assumption) | with_reducible exact Ext.refl _ | with_reducible refine Ext.ext ?_ _ | with_reducible refine Ext.alloc ?_ _ | with_reducible refine Ext.drew ?_ | with_reducible refine Ext.setCell ?_ (by (try dsimp only); first | omega | (simp; done) | (simp; omega)) _))).cell l1, (show Ext Y _ by (show Ext _ _; repeat (first | with_reducible (refine Hid.out ?_; assumption) | with_reducible exact Ext.refl _ | with_reducible refine Ext.ext ?_ _ | with_reducible refine Ext.alloc ?_ _ | with_reducible refine Ext.drew ?_ | with_reducible refine Ext.setCell ?_ (by (try dsimp only); first | omega | (simp; done) | (simp; omega)) _))).cell l2⟩, (show Ext Y _ by (show Ext _ _; repeat (first | with_reducible (refine Hid.out ?_; assumption) | with_reducible exact Ext.refl _ | with_reducible refine Ext.ext ?_ _ | with_reducible refine Ext.alloc ?_ _ | with_reducible refine Ext.drew ?_ | with_reducible refine Ext.setCell ?_ (by (try dsimp only); first | omega | (simp; done) | (simp; omega)) _))).cell a0⟩) (fun hHeld => ?_)
        clear hOld hK K
        (try simp only [Act.put, List.setIfInBounds_toArray, List.set_cons_zero, List.set_cons_succ])
        refine take_met 11 (oi := ⟨_, _, _, _, _, _⟩) (v := ?_) (by kernel_rfl) rfl (by rfl) (fun _ _ _ h => h) (by assumption) ?_ ?_
        rotate_left 1
        · intro w hSw
          try dsimp only at hSw
          go_simp
          try with_reducible rfl
        (try simp only [Act.put, List.setIfInBounds_toArray, List.set_cons_zero, List.set_cons_succ])
        refine wpAnyH_done (by kernel_rfl) ?_ _
        go_wp2_with fail
        go_meet
        exact ⟨rfl, by (show Ext _ _; repeat (first | with_reducible (refine Hid.out ?_; assumption) | with_reducible exact Ext.refl _ | with_reducible refine Ext.ext ?_ _ | with_reducible refine Ext.alloc ?_ _ | with_reducible refine Ext.drew ?_ | with_reducible refine Ext.setCell ?_ (by (try dsimp only); first | omega | (simp; done) | (simp; omega)) _))⟩
      refine AllReadyH.cons (o := ⟨_, _, _, _, _, _⟩) rfl (fun K hK => ?_) AllReadyH.nil
      go_simp
      have hOld := hHeld
      clear hHeld
      refine hK.out _ _ (by exact ⟨⟨(show Ext Y _ by (show Ext _ _; repeat (first | with_reducible (refine Hid.out ?_; assumption) | with_reducible exact Ext.refl _ | with_reducible refine Ext.ext ?_ _ | with_reducible refine Ext.alloc ?_ _ | with_reducible refine Ext.drew ?_ | with_reducible refine Ext.setCell ?_ (by (try dsimp only); first | omega | (simp; done) | (simp; omega)) _))).cell l0, (show Ext Y _ by (show Ext _ _; repeat (first | with_reducible (refine Hid.out ?_; assumption) | with_reducible exact Ext.refl _ | with_reducible refine Ext.ext ?_ _ | with_reducible refine Ext.alloc ?_ _ | with_reducible refine Ext.drew ?_ | with_reducible refine Ext.setCell ?_ (by (try dsimp only); first | omega | (simp; done) | (simp; omega)) _))).cell l1, (show Ext Y _ by (show Ext _ _; repeat (first | with_reducible (refine Hid.out ?_; assumption) | with_reducible exact Ext.refl _ | with_reducible refine Ext.ext ?_ _ | with_reducible refine Ext.alloc ?_ _ | with_reducible refine Ext.drew ?_ | with_reducible refine Ext.setCell ?_ (by (try dsimp only); first | omega | (simp; done) | (simp; omega)) _))).cell l2⟩, (show Ext Y _ by (show Ext _ _; repeat (first | with_reducible (refine Hid.out ?_; assumption) | with_reducible exact Ext.refl _ | with_reducible refine Ext.ext ?_ _ | with_reducible refine Ext.alloc ?_ _ | with_reducible refine Ext.drew ?_ | with_reducible refine Ext.setCell ?_ (by (try dsimp only); first | omega | (simp; done) | (simp; omega)) _))).cell a0⟩) (fun hHeld => ?_)
      clear hOld hK K
      (try simp only [Act.put, List.setIfInBounds_toArray, List.set_cons_zero, List.set_cons_succ])
      refine take_only 5 (oi := ⟨_, _, _, _, _, _⟩) (by kernel_rfl) rfl (fun K hK => ?_)
      go_simp
      first
        | (go_at_call 14; refine (read_early T C B q1 ha1 ha2 (L2.drop 1) _ _ (HS.out.of (HEYw.out.trans (by (show Ext _ _; repeat (first | with_reducible (refine Hid.out ?_; assumption) | with_reducible exact Ext.refl _ | with_reducible refine Ext.ext ?_ _ | with_reducible refine Ext.alloc ?_ _ | refine Ext.drew ?_ | refine Ext.drewN ?_ _ | exact Ext.refl _))))) (HD1.out.of wdE_len (by (show Ext _ _; repeat (first | with_reducible (refine Hid.out ?_; assumption) | with_reducible exact Ext.refl _ | with_reducible refine Ext.ext ?_ _ | with_reducible refine Ext.alloc ?_ _ | refine Ext.drew ?_ | refine Ext.drewN ?_ _ | exact Ext.refl _)))) (.inl (.inr HSh.out))).mono ?_; rintro e w' ⟨rfl, _, r8, rfl⟩; rw [readN_short HSh.out])
      have hOld := hHeld
      clear hHeld
      refine hK.out _ _ (by exact ⟨⟨(show Ext Y _ by (show Ext _ _; repeat (first | with_reducible (refine Hid.out ?_; assumption) | with_reducible exact Ext.refl _ | with_reducible refine Ext.ext ?_ _ | with_reducible refine Ext.alloc ?_ _ | with_reducible refine Ext.drew ?_ | with_reducible refine Ext.setCell ?_ (by (try dsimp only); first | omega | (simp; done) | (simp; omega)) _))).cell l0, (show Ext Y _ by (show Ext _ _; repeat (first | with_reducible (refine Hid.out ?_; assumption) | with_reducible exact Ext.refl _ | with_reducible refine Ext.ext ?_ _ | with_reducible refine Ext.alloc ?_ _ | with_reducible refine Ext.drew ?_ | with_reducible refine Ext.setCell ?_ (by (try dsimp only); first | omega | (simp; done) | (simp; omega)) _))).cell l1, (show Ext Y _ by (show Ext _ _; repeat (first | with_reducible (refine Hid.out ?_; assumption) | with_reducible exact Ext.refl _ | with_reducible refine Ext.ext ?_ _ | with_reducible refine Ext.alloc ?_ _ | with_reducible refine Ext.drew ?_ | with_reducible refine Ext.setCell ?_ (by (try dsimp only); first | omega | (simp; done) | (simp; omega)) _))).cell l2⟩, (show Ext Y _ by (show Ext _ _; repeat (first | with_reducible (refine Hid.out ?_; assumption) | with_reducible exact Ext.refl _ | with_reducible refine Ext.ext ?_ _ | with_reducible refine Ext.alloc ?_ _ | with_reducible refine Ext.drew ?_ | with_reducible refine Ext.setCell ?_ (by (try dsimp only); first | omega | (simp; done) | (simp; omega)) _))).cell a0⟩) (fun hHeld => ?_)
      clear hOld hK K
      (try simp only [Act.put, List.setIfInBounds_toArray, List.set_cons_zero, List.set_cons_succ])
      refine take_met 6 (oi := ⟨_, _, _, _, _, _⟩) (v := ?_) (by kernel_rfl) rfl (by rfl) (fun _ _ _ h => h) (by assumption) ?_ ?_
      rotate_left 1
      · intro w hSw
        try dsimp only at hSw
        go_simp
        try with_reducible rfl
      (try simp only [Act.put, List.setIfInBounds_toArray, List.set_cons_zero, List.set_cons_succ])
      refine take_met 7 (oi := ⟨_, _, _, _, _, _⟩) (v := ?_) (by kernel_rfl) rfl (by rfl) (fun _ _ _ h => h) (by assumption) ?_ ?_
      rotate_left 1
      · intro w hSw
        try dsimp only at hSw
        go_simp
        try with_reducible rfl
      (try simp only [Act.put, List.setIfInBounds_toArray, List.set_cons_zero, List.set_cons_succ])
      refine take_met 8 (oi := ⟨_, _, _, _, _, _⟩) (v := ?_) (by kernel_rfl) rfl (by rfl) (fun _ _ _ h => h) (by assumption) ?_ ?_
      rotate_left 1
      · intro w hSw
        try dsimp only at hSw
        go_simp
        try with_reducible rfl
      (try simp only [Act.put, List.setIfInBounds_toArray, List.set_cons_zero, List.set_cons_succ])
      refine take_only 10 (oi := ⟨_, _, _, _, _, _⟩) (by kernel_rfl) rfl (fun K hK => ?_)
      go_simp
      have hOld := hHeld
      clear hHeld
      refine hK.out _ _ (by exact ⟨⟨(show Ext Y _ by (show Ext _ _; repeat (first | with_reducible (refine Hid.out ?_; assumption) | with_reducible exact Ext.refl _ | with_reducible refine Ext.ext ?_ _ | with_reducible refine Ext.alloc ?_ _ | with_reducible refine Ext.drew ?_ | with_reducible refine Ext.setCell ?_ (by (try dsimp only); first | omega | (simp; done) | (simp; omega)) _))).cell l0, (show Ext Y _ by (show Ext _ _; repeat (first | with_reducible (refine Hid.out ?_; assumption) | with_reducible exact Ext.refl _ | with_reducible refine Ext.ext ?_ _ | with_reducible refine Ext.alloc ?_ _ | with_reducible refine Ext.drew ?_ | with_reducible refine Ext.setCell ?_ (by (try dsimp only); first | omega | (simp; done) | (simp; omega)) _))).cell l1, (show Ext Y _ by (show Ext _ _; repeat (first | with_reducible (refine Hid.out ?_; assumption) | with_reducible exact Ext.refl _ | with_reducible refine Ext.ext ?_ _ | with_reducible refine Ext.alloc ?_ _ | with_reducible refine Ext.drew ?_ | with_reducible refine Ext.setCell ?_ (by (try dsimp only); first | omega | (simp; done) | (simp; omega)) _))).cell l2⟩, (show Ext Y _ by (show Ext _ _; repeat (first | with_reducible (refine Hid.out ?_; assumption) | with_reducible exact Ext.refl _ | with_reducible refine Ext.ext ?_ _ | with_reducible refine Ext.alloc ?_ _ | with_reducible refine Ext.drew ?_ | with_reducible refine Ext.setCell ?_ (by (try dsimp only); first | omega | (simp; done) | (simp; omega)) _))).cell a0⟩) (fun hHeld => ?_)
      clear hOld hK K
      (try simp only [Act.put, List.setIfInBounds_toArray, List.set_cons_zero, List.set_cons_succ])
      refine take_met 11 (oi := ⟨_, _, _, _, _, _⟩) (v := ?_) (by kernel_rfl) rfl (by rfl) (fun _ _ _ h => h) (by assumption) ?_ ?_
      rotate_left 1
      · intro w hSw
        try dsimp only at hSw
        go_simp
        try with_reducible rfl
      (try simp only [Act.put, List.setIfInBounds_toArray, List.set_cons_zero, List.set_cons_succ])
      refine wpAnyH_done (by kernel_rfl) ?_ _
      go_wp2_with fail
      go_meet
      exact ⟨rfl, by (show Ext _ _; repeat (first | with_reducible (refine Hid.out ?_; assumption) | with_reducible exact Ext.refl _ | with_reducible refine Ext.ext ?_ _ | with_reducible refine Ext.alloc ?_ _ | with_reducible refine Ext.drew ?_ | with_reducible refine Ext.setCell ?_ (by (try dsimp only); first | omega | (simp; done) | (simp; omega)) _))⟩
    case rest =>
    obtain ⟨rfl, hcut⟩ := hcut
    have HEc := hid hcut
    have HSx := hid (show sameB es es = true from (sameB_iff es es).2 rfl)
    obtain ⟨x0, x1, x2, x3⟩ := (HBx.out.of hcut).four
    have x4 := (HBx.out.of hcut).1
    obtain ⟨y0, y1, y2, y3⟩ := (HBy.out.of hcut).four
    have y4 := (HBy.out.of hcut).1
    clear hcut
    go_wp2_with fail
    refine (same_any es es _ _ _ (HX5Y.out.of enE_len (HEc.out.trans (by (show Ext _ _; repeat (first | with_reducible (refine Hid.out ?_; assumption) | with_reducible exact Ext.refl _ | with_reducible refine Ext.ext ?_ _ | with_reducible refine Ext.alloc ?_ _ | refine Ext.drew ?_ | refine Ext.drewN ?_ _ | exact Ext.refl _))))) (HX6Y.out.of enE_len (HEc.out.trans (by (show Ext _ _; repeat (first | with_reducible (refine Hid.out ?_; assumption) | with_reducible exact Ext.refl _ | with_reducible refine Ext.ext ?_ _ | with_reducible refine Ext.alloc ?_ _ | refine Ext.drew ?_ | refine Ext.drewN ?_ _ | exact Ext.refl _)))))).mono ?_
    rintro e w' ⟨rfl, r9, rfl⟩
    rw [HSx.out]
    go_wp2_with fail
    refine (dawake_any _ (HS.out.of (HEYw.out.trans (HEc.out.trans (by (show Ext _ _; repeat (first | with_reducible (refine Hid.out ?_; assumption) | with_reducible exact Ext.refl _ | with_reducible refine Ext.ext ?_ _ | with_reducible refine Ext.alloc ?_ _ | refine Ext.drew ?_ | refine Ext.drewN ?_ _ | exact Ext.refl _))))))).mono ?_
    rintro e w' ⟨rfl, r10, rfl⟩
    go_wp2_with fail
    go_ret
    exact ⟨rfl, HEYw.out.trans (HEc.out.trans (by (show Ext _ _; repeat (first | with_reducible (refine Hid.out ?_; assumption) | with_reducible exact Ext.refl _ | with_reducible refine Ext.ext ?_ _ | with_reducible refine Ext.alloc ?_ _ | refine Ext.drew ?_ | refine Ext.drewN ?_ _ | exact Ext.refl _))))⟩

end Go.Proofs.YtojcojghnhibmaaDoor
