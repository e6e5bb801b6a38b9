/- The walk of the statement DescLogicals. -/
import Derived.Test.YtojcojghnhibmaaDoorAwkB
import Derived.Test.YtojcojghnhibmaaDoorPlanB
import Derived.Test.YtojcojghnhibmaaDoorSlD
import Derived.Test.YtojcojghnhibmaaDoorDecLaw
import Derived.Test.YtojcojghnhibmaaDoorDescH
import Derived.Test.YtojcojghnhibmaaDoorOwn
import Derived.Deep.DeepCutAuto
namespace Go.Proofs.YtojcojghnhibmaaDoor
set_option linter.unusedSimpArgs false
set_option linter.unusedVariables false
open Go.RowKit

set_option maxRecDepth 100000 in
set_option maxHeartbeats 4000000 in
theorem dlog_any (x y z : Int) (hx : 0 ≤ x ∧ x ≤ 255) (hy : 0 ≤ y ∧ y ≤ 255) (hz : 0 ≤ z ∧ z ≤ 255)
    (ua qa ta : Int) (va : Value) (ea : List En) (hua : -9223372036854775808 ≤ ua ∧ ua ≤ 9223372036854775807) (hqa : -9223372036854775808 ≤ qa ∧ qa ≤ 9223372036854775807)
    (pv : Value) (pl : List Pt) (w : World) (hs : Szs w) (hva : Es w va ea) (hoka : ∀ e ∈ ea, EnOk e) (hpv : Sl w 4 ptE pv pl) (hokp : ∀ a ∈ pl, PtOk a) :
    Calls Tryd.prog 5 #[.agg #[.int .u8 x, .int .u8 y, .int .u8 z], .agg #[.int .i64 ua, .int .i64 qa, .int .i64 ta, va], pv] w fun e w' => e = .returned (.bool true) ∧ ∃ r, w' = ext w r := by
  have HS := hid hs
  obtain ⟨ha1, ha2⟩ := hua
  have HX := hid hx
  have HY := hid hy
  have HZ := hid hz
  have HVA := hid hva
  have HOA := hid hoka
  have HPV := hid hpv
  have HOP := hid hokp
  obtain ⟨aa, ca, rfl, _, _⟩ := hva
  obtain ⟨ap, cp, rfl, _, _⟩ := hpv
  clear hs hx hy hz hoka hokp
  by_cases hga : (40 : Int) < (ea.length : Int)
  · have hg : decide ((40 : Int) < (ea.length : Int)) = true := decide_eq_true hga
    go_enter Tryd.func5, Tryd.ntmps5
    go_wp2_with fail
    refine (great_any aa ea.length ca _).mono ?_
    rintro e w' ⟨rfl, r1, rfl⟩
    rw [hg]
    go_wp2_with fail
    refine (dawake_any _ (HS.out.of (by (show Ext _ _; repeat (first | with_reducible (refine Hid.out ?_; assumption) | with_reducible exact Ext.refl _ | with_reducible refine Ext.ext ?_ _ | with_reducible refine Ext.alloc ?_ _ | refine Ext.drew ?_ | refine Ext.drewN ?_ _ | exact Ext.refl _))))).mono ?_
    rintro e w' ⟨rfl, r6, rfl⟩
    go_wp2_with fail
    go_ret
    exact ⟨rfl, by (show Ext _ _; repeat (first | with_reducible (refine Hid.out ?_; assumption) | with_reducible exact Ext.refl _ | with_reducible refine Ext.ext ?_ _ | with_reducible refine Ext.alloc ?_ _ | refine Ext.drew ?_ | refine Ext.drewN ?_ _ | exact Ext.refl _))⟩
  have hg1 : decide ((40 : Int) < (ea.length : Int)) = false := decide_eq_false hga
  by_cases hgb : (40 : Int) < (pl.length : Int)
  · go_enter Tryd.func5, Tryd.ntmps5
    go_wp2_with fail
    refine (great_any aa ea.length ca _).mono ?_
    rintro e w' ⟨rfl, r1, rfl⟩
    rw [hg1]
    go_wp2_with fail
    refine (dawake_any _ (HS.out.of (by (show Ext _ _; repeat (first | with_reducible (refine Hid.out ?_; assumption) | with_reducible exact Ext.refl _ | with_reducible refine Ext.ext ?_ _ | with_reducible refine Ext.alloc ?_ _ | refine Ext.drew ?_ | refine Ext.drewN ?_ _ | exact Ext.refl _))))).mono ?_
    rintro e w' ⟨rfl, r6, rfl⟩
    go_wp2_with fail
    go_ret
    exact ⟨rfl, by (show Ext _ _; repeat (first | with_reducible (refine Hid.out ?_; assumption) | with_reducible exact Ext.refl _ | with_reducible refine Ext.ext ?_ _ | with_reducible refine Ext.alloc ?_ _ | refine Ext.drew ?_ | refine Ext.drewN ?_ _ | exact Ext.refl _))⟩
  clear hga
  go_enter Tryd.func5, Tryd.ntmps5
  go_wp2_with fail
  refine (great_any aa ea.length ca _).mono ?_
  rintro e w' ⟨rfl, r1, rfl⟩
  rw [hg1]
  go_wp2_with fail
  refine (plan_any x y z HX.out HY.out HZ.out _ (HS.out.of (by (show Ext _ _; repeat (first | with_reducible (refine Hid.out ?_; assumption) | with_reducible exact Ext.refl _ | with_reducible refine Ext.ext ?_ _ | with_reducible refine Ext.alloc ?_ _ | refine Ext.drew ?_ | refine Ext.drewN ?_ _ | exact Ext.refl _))))).mono ?_
  rintro e w' ⟨T, C, B, sl, rm, sz, v, ⟨hT1, hT4⟩, ⟨hC1, hC4⟩, hB4, hsl, hrm, hsz, rfl, ⟨r3, rfl⟩, hsv⟩
  obtain ⟨hck, h7⟩ := plan_ok (T := T) (C := C) (B := B) (by omega) (by omega) (by omega)
  have hr : rightN T C B = true := by unfold rightN; rw [hck]; rfl
  have hszn : (sz : Int) = sizeN T C B := by unfold sizeN; rw [if_pos hr]; exact hsz
  have HPl := hid (fun who h0 h1 => place_law hr (by omega) hsl hrm who h0 h1)
  have HRdl := hid (fun (l : List Wd) (hl : l.length = sz) who h0 h1 => rread_law hr (by omega) hsl hrm hszn l hl who h0 h1)
  have HMay := hid (fun p => rmay_law hszn p)
  have hfl := from_le7 (right_lok hr).1
  have hslb : (sl : Int) ≤ 100000 := by omega
  have hrmb : (rm : Int) ≤ 100000 := by rw [hrm]; split <;> omega
  generalize hWP : ext _ r3 = WP at *
  have HEp := hid (show Ext w WP by rw [← hWP]; (show Ext _ _; repeat (first | with_reducible (refine Hid.out ?_; assumption) | with_reducible exact Ext.refl _ | with_reducible refine Ext.ext ?_ _ | with_reducible refine Ext.alloc ?_ _ | refine Ext.drew ?_ | refine Ext.drewN ?_ _ | exact Ext.refl _)))
  have HBaP := hid (show Blk WP (w.heap.size + 1) [.int .i64 ua, .int .i64 qa, .int .i64 ta, .slice aa ea.length ca] by rw [← hWP]; (show Blk _ _ _; repeat (first | with_reducible (refine Hid.out ?_; assumption) | with_reducible refine Blk.drew ?_ | with_reducible refine Blk.ext ?_ _ | (with_reducible refine Blk.new _ _ rfl ?_; first | with_reducible rfl | (simp; done)) | with_reducible refine Blk.alloc ?_ _ | with_reducible assumption | with_reducible apply Blk.setE | (with_reducible refine Blk.other' ?_ ?_; first | omega | (simp; omega)) | (show List.set _ _ _ = _; exact rfl) | (show _ < List.length _; simp; done))))
  have HPs := hid hsv
  obtain ⟨av, cv, rfl, _, _⟩ := hsv
  have hwp : w.heap.size + 2 ≤ WP.heap.size := by rw [← hWP]; simp; omega
  have HCk := hid hck
  have HSz := hid hszn
  have hs8 : (8 : Int) ≤ (sz : Int) := by omega
  have hs9 : (sz : Int) ≤ 2000 := by omega
  have HRt := hid hr
  clear hWP hsl hrm hsz hck h7 hfl hszn
  generalize hna : w.heap.size + 1 = na at *
  go_wp2_with fail
  refine (mem_any T C B hr pl _ HOP.out (by omega) _ (HS.out.of (HEp.out.trans (by (show Ext _ _; repeat (first | with_reducible (refine Hid.out ?_; assumption) | with_reducible exact Ext.refl _ | with_reducible refine Ext.ext ?_ _ | with_reducible refine Ext.alloc ?_ _ | refine Ext.drew ?_ | refine Ext.drewN ?_ _ | exact Ext.refl _))))) (HPV.out.of ptE_len (HEp.out.trans (by (show Ext _ _; repeat (first | with_reducible (refine Hid.out ?_; assumption) | with_reducible exact Ext.refl _ | with_reducible refine Ext.ext ?_ _ | with_reducible refine Ext.alloc ?_ _ | refine Ext.drew ?_ | refine Ext.drewN ?_ _ | exact Ext.refl _)))))).mono ?_
  rintro e w' ⟨v8, rfl, ⟨r4, rfl⟩, hv8⟩
  obtain ⟨L, hL⟩ : ∃ L, L = memTo (firstL T C B) pl pl.length := ⟨_, rfl⟩
  have hln : L.length = sz := by
    have h1 := firstL_len hr
    rw [hL, memTo_len]
    have := HSz.out
    omega
  rw [← hL] at hv8
  have HLok := hid (show ∀ a ∈ L, WdOk a by rw [hL]; exact memTo_ok (firstL_ok _ _ _) HOP.out _)
  obtain ⟨g, c8, rfl, hgl, hgs⟩ := Ws.open hv8 (by omega)
  rw [hln] at hv8 ⊢
  have hgl2 : WP.heap.size + 1 < g := by simp at hgl; omega
  have HLn := hid hln
  have HF := hid (show (L.length : Int) = sizeN T C B by rw [hln]; exact HSz.out)
  clear hL hln
  generalize hU : ext _ r4 = U at *
  have HEPU := hid (show Ext WP U by rw [← hU]; (show Ext _ _; repeat (first | with_reducible (refine Hid.out ?_; assumption) | with_reducible exact Ext.refl _ | with_reducible refine Ext.ext ?_ _ | with_reducible refine Ext.alloc ?_ _ | refine Ext.drew ?_ | refine Ext.drewN ?_ _ | exact Ext.refl _)))
  have HBl := hid (show Blk U WP.heap.size [.int .i64 T, .int .i64 C, .int .i64 B] by rw [← hU]; (show Blk _ _ _; repeat (first | with_reducible (refine Hid.out ?_; assumption) | with_reducible refine Blk.drew ?_ | with_reducible refine Blk.ext ?_ _ | (with_reducible refine Blk.new _ _ rfl ?_; first | with_reducible rfl | (simp; done)) | with_reducible refine Blk.alloc ?_ _ | with_reducible assumption | with_reducible apply Blk.setE | (with_reducible refine Blk.other' ?_ ?_; first | omega | (simp; omega)) | (show List.set _ _ _ = _; exact rfl) | (show _ < List.length _; simp; done))))
  have HBp := hid (show Blk U (WP.heap.size + 1) [.int .i64 T, .int .i64 B, .int .i64 sl, .int .i64 rm, .int .i64 104, .int .i64 32, .slice av (mayL T C B sz).length cv, .int .i64 sz] by rw [← hU]; (show Blk _ _ _; repeat (first | with_reducible (refine Hid.out ?_; assumption) | with_reducible refine Blk.drew ?_ | with_reducible refine Blk.ext ?_ _ | (with_reducible refine Blk.new _ _ rfl ?_; first | with_reducible rfl | (simp; done)) | with_reducible refine Blk.alloc ?_ _ | with_reducible assumption | with_reducible apply Blk.setE | (with_reducible refine Blk.other' ?_ ?_; first | omega | (simp; omega)) | (show List.set _ _ _ = _; exact rfl) | (show _ < List.length _; simp; done))))
  have HL := hid (show Ws U w.heap.size _ L from Own.mono hv8 (show w.heap.size ≤ _ by simp; omega))
  have HE := hid (HEp.out.trans HEPU.out)
  have HBa := hid (HBaP.out.of HEPU.out)
  generalize hnp : WP.heap.size + 1 = np at *
  generalize hnl : WP.heap.size = nl at *
  clear hU hv8 hgl HBaP
  obtain ⟨a0, a1, a2, a3⟩ := HBa.out.four
  have a4 := HBa.out.1
  obtain ⟨l0, l1, l2⟩ := HBl.out.three
  have l4 := HBl.out.1
  obtain ⟨p0, p1, p2, p3, p4, p5, p6, p7⟩ := HBp.out.eight
  have p8 := HBp.out.1
  have hz0 : ((sz : Int) == 0) = false := by simp; omega
  go_wp2_with fail
  refine (laid_n T C B ua qa ta HCk.out ha1 ha2 ea _ HOA.out L sz w.heap.size g c8 HLn.out w _ HS.out HE.out HVA.out HL.out HF.out (by omega) (by omega) (by omega)).mono ?_
  rintro e V ⟨rfl, hG, hL1⟩
  have HEV := hid (HE.out.grn hG (by omega))
  have HEPV := hid (HEPU.out.grn hG (by omega))
  have HBaV := hid (HBa.out.grn hG (by omega))
  have HBlV := hid (HBl.out.grn hG (by omega))
  have HBpV := hid (HBp.out.grn hG (by omega))
  have hgV : g < V.heap.size := Nat.lt_of_lt_of_le hgs hG.size
  have HF1 := hid (show ((laidL T C B ua qa ta ea L).length : Int) = sizeN T C B by rw [laidL_len]; exact HF.out)
  have HLn1 := hid (show (laidL T C B ua qa ta ea L).length = sz by rw [laidL_len]; exact HLn.out)
  have HLo1 := hid (laidL_ok (t := T) (c := C) (b := B) (who := ua) (seq := qa) (st := ta) HLok.out HOA.out)
  obtain ⟨L1, hL9⟩ : ∃ L1, L1 = laidL T C B ua qa ta ea L := ⟨_, rfl⟩
  rw [← hL9] at hL1 HF1 HLo1 HLn1
  have HL1 := hid hL1
  obtain ⟨rr, hrr⟩ : ∃ rr, rr = (refN ua qa).1 := ⟨_, rfl⟩
  have hrb := ref_bd ua qa
  rw [← hrr] at hrb
  have HRb := hid hrb
  have HRr := hid hrr
  clear hL1 hG hL9 HL HF HLn HE HBa HBl HBp HEPU a0 a1 a2 a3 a4 l0 l1 l2 l4 p0 p1 p2 p3 p4 p5 p6 p7 p8 hgs HLok hrr hrb
  obtain ⟨a0, a1, a2, a3⟩ := HBaV.out.four
  have a4 := HBaV.out.1
  go_wp2_with fail
  refine (ref_any ua qa _).mono ?_
  rintro e w' ⟨rfl, r5, rfl⟩
  rw [← HRr.out]
  go_wp2_with fail
  generalize hZ : ext _ r5 = Z
  have HEVZ := hid (show Ext V Z by rw [← hZ]; (show Ext _ _; repeat (first | with_reducible (refine Hid.out ?_; assumption) | with_reducible exact Ext.refl _ | with_reducible refine Ext.ext ?_ _ | with_reducible refine Ext.alloc ?_ _ | refine Ext.drew ?_ | refine Ext.drewN ?_ _ | exact Ext.refl _)))
  have HEZ := hid (HEV.out.trans HEVZ.out)
  have HEPZ := hid (HEPV.out.trans HEVZ.out)
  have HBaZ := hid (HBaV.out.of HEVZ.out)
  have HBlZ := hid (HBlV.out.of HEVZ.out)
  have HBpZ := hid (HBpV.out.of HEVZ.out)
  have HLZ := hid (show Ws Z w.heap.size (.slice (some ⟨g, 0, none⟩) sz c8) L1 from HL1.out.of HEVZ.out)
  have hgZ : g < Z.heap.size := Nat.lt_of_lt_of_le hgV HEVZ.out.size
  clear hZ HEV HEPV HBaV HBlV HBpV HL1 hgV HEVZ a0 a1 a2 a3 a4
  go_loopw [13] (fun i wr => ∃ j : Nat, j ≤ ea.length ∧ i = .int .i64 j ∧ Hid (Ws wr w.heap.size (.slice (some ⟨g, 0, none⟩) sz c8) (instTo T C B L1 ea rr j)) ∧ Hid (Grn g Z wr)) (fun i _ => ea.length - (intOf i).toNat)
  case atStart => exact ⟨0, by omega, rfl, HLZ, hid Grn.refl⟩
  case round =>
  clear HLZ
  obtain ⟨j, hj, rfl, HL, HG⟩ := hrel
  have HEw := hid (HEZ.out.grn HG.out (by omega))
  have HEPw := hid (HEPZ.out.grn HG.out (by omega))
  have HBaw := hid (HBaZ.out.grn HG.out (by omega))
  have HBlw := hid (HBlZ.out.grn HG.out (by omega))
  have HBpw := hid (HBpZ.out.grn HG.out (by omega))
  have hgw : g < wr.heap.size := Nat.lt_of_lt_of_le hgZ HG.out.size
  obtain ⟨a0, a1, a2, a3⟩ := HBaw.out.four
  have a4 := HBaw.out.1
  obtain ⟨l0, l1, l2⟩ := HBlw.out.three
  have l4 := HBlw.out.1
  obtain ⟨p0, p1, p2, p3, p4, p5, p6, p7⟩ := HBpw.out.eight
  have p8 := HBpw.out.1
  have hea : (ea.length : Int) ≤ 40 := by simpa using hg1
  by_cases hjl : j < ea.length
  · have hd : decide (j < ea.length) = true := decide_eq_true hjl
    have hx := List.getElem?_eq_getElem hjl
    generalize ea[j] = x at hx
    have HXk := hid (HOA.out x (List.mem_of_getElem? hx))
    have HXj := hid hx
    have hjj : (j : Int) < (ea.length : Int) := by omega
    have hj40 : (j : Int) < 40 := by omega
    obtain ⟨_, b0, o, hab, hbl, hcs⟩ := Sl.at HVA.out hx
    subst hab
    have HK1 := hid (hcs 1 (by omega))
    have HK2 := hid (hcs 2 (by omega))
    obtain ⟨loc, val, ver, ref, new, wr1⟩ := x
    have k0 := HEw.out.cell (hcs 0 (by omega))
    have k1 := HEw.out.cell (hcs 1 (by omega))
    have k2 := HEw.out.cell (hcs 2 (by omega))
    simp [enE] at k0 k1 k2
    obtain ⟨md, hmd⟩ : ∃ md, md = j % 3 := ⟨_, rfl⟩
    have htm : (j : Int).tmod 3 = (md : Int) := by rw [Int.tmod_eq_emod_of_nonneg (by omega)]; omega
    have HMd := hid hmd
    clear hcs hx hmd hea
    have hcs : md = 2 ∨ (md ≠ 2 ∧ mayN T C B loc = false) ∨ (md ≠ 2 ∧ mayN T C B loc = true) := by
      by_cases h : md = 2
      · exact .inl h
      · cases hm : mayN T C B loc
        · exact .inr (.inl ⟨h, rfl⟩)
        · exact .inr (.inr ⟨h, rfl⟩)
    rcases hcs with h2 | ⟨h2, hm⟩ | ⟨h2, hm⟩
    · have hne : ((md : Int) != 2) = false := by simp; omega
      have HA := hid (instTo_no (t := T) (c := C) (b := B) (L := L1) (r := rr) HXj.out (by rintro ⟨h, _⟩; exact h (by rw [← HMd.out]; exact h2)))
      clear h2
      go_wp2_with fail
      go_roundw
      case rel => exact ⟨j + 1, by omega, by go_num, hid (by rw [HA.out]; exact HL.out.of (by (show Ext _ _; repeat (first | with_reducible (refine Hid.out ?_; assumption) | with_reducible exact Ext.refl _ | with_reducible refine Ext.ext ?_ _ | with_reducible refine Ext.alloc ?_ _ | refine Ext.drew ?_ | refine Ext.drewN ?_ _ | exact Ext.refl _)))), hid (by first | exact HG.out | exact HG.out.ext _)⟩
      case measure => simp [intOf]; omega
    · have hne : ((md : Int) != 2) = true := by simp; omega
      have HA := hid (instTo_no (t := T) (c := C) (b := B) (L := L1) (r := rr) HXj.out (by rintro ⟨_, h⟩; rw [hm] at h; cases h))
      have HM := hid hm
      clear h2 hm
      go_wp2_with fail
      refine (rmay_any T B sl rm 104 32 sz _ _ loc _ (HPs.out.of boE_len (HEPw.out.trans (by (show Ext _ _; repeat (first | with_reducible (refine Hid.out ?_; assumption) | with_reducible exact Ext.refl _ | with_reducible refine Ext.ext ?_ _ | with_reducible refine Ext.alloc ?_ _ | refine Ext.drew ?_ | refine Ext.drewN ?_ _ | exact Ext.refl _)))))).mono ?_
      rintro e w' ⟨rfl, r6, rfl⟩
      rw [HMay.out, HM.out]
      go_wp2_with fail
      go_roundw
      case rel => exact ⟨j + 1, by omega, by go_num, hid (by rw [HA.out]; exact HL.out.of (by (show Ext _ _; repeat (first | with_reducible (refine Hid.out ?_; assumption) | with_reducible exact Ext.refl _ | with_reducible refine Ext.ext ?_ _ | with_reducible refine Ext.alloc ?_ _ | refine Ext.drew ?_ | refine Ext.drewN ?_ _ | exact Ext.refl _)))), hid (HG.out.ext r6)⟩
      case measure => simp [intOf]; omega
    · have hne : ((md : Int) != 2) = true := by simp; omega
      have HA := hid (instTo_yes (t := T) (c := C) (b := B) (L := L1) (r := rr) HXj.out (by rw [← HMd.out]; exact h2) hm)
      have HM := hid hm
      obtain ⟨_, hp0, hp1⟩ := may_bds hm
      rw [← HSz.out] at hp1
      obtain ⟨p, rfl⟩ := Int.eq_ofNat_of_zero_le hp0
      have hlen : (instTo T C B L1 ea rr j).length = sz := by rw [instTo_len]; exact HLn1.out
      have HLnj := hid hlen
      have HPq := hid (show p < sz by omega)
      obtain ⟨⟨y1, y2, y3⟩, hy⟩ : ∃ y, (instTo T C B L1 ea rr j)[p]? = some y := ⟨_, List.getElem?_eq_getElem (by rw [hlen]; exact HPq.out)⟩
      obtain ⟨m0, m1, m2⟩ := Ws.cells HL.out hy
      have f0 := Ws.free HL.out (p * 3)
      have f1 := Ws.free HL.out (p * 3 + 1)
      have f2 := Ws.free HL.out (p * 3 + 2)
      clear h2 hm hlen hy
      go_wp2_with fail
      refine (rmay_any T B sl rm 104 32 sz _ _ p _ (HPs.out.of boE_len (HEPw.out.trans (by (show Ext _ _; repeat (first | with_reducible (refine Hid.out ?_; assumption) | with_reducible exact Ext.refl _ | with_reducible refine Ext.ext ?_ _ | with_reducible refine Ext.alloc ?_ _ | refine Ext.drew ?_ | refine Ext.drewN ?_ _ | exact Ext.refl _)))))).mono ?_
      rintro e w' ⟨rfl, r6, rfl⟩
      rw [HMay.out, HM.out]
      go_wp2_with fail
      refine wp_region_held_drew (S := fun w' => w'.cell? ⟨na, 3, none⟩ = some (.slice (some ⟨b0, o, none⟩) ea.length ca) ∧ w'.cell? ⟨b0, o + j * 6 + 1, none⟩ = some (.int .i64 val) ∧ w'.cell? ⟨b0, o + j * 6 + 2, none⟩ = some (.int .u32 ver)) (by kernel_rfl) (by exact ⟨(show Blk _ na [.int .i64 ua, .int .i64 qa, .int .i64 ta, .slice (some ⟨b0, o, none⟩) ea.length ca] by (show Blk _ _ _; repeat (first | with_reducible (refine Hid.out ?_; assumption) | with_reducible apply Blk.drew | with_reducible apply Blk.ext | ((with_reducible refine Blk.new _ _ rfl ?_); first | with_reducible rfl | focus (simp; done)) | ((with_reducible apply Blk.newE); first | with_reducible rfl | focus (simp; done)) | with_reducible apply Blk.alloc | with_reducible assumption | with_reducible apply Blk.setE | ((with_reducible refine Blk.other' ?_ ?_); first | omega | (simp; omega)) | (show List.set _ _ _ = _; exact rfl) | focus (show _ < List.length _; simp; done)))).2.2 3 _ rfl, (show Ext w _ by (show Ext _ _; repeat (first | with_reducible (refine Hid.out ?_; assumption) | with_reducible exact Ext.refl _ | with_reducible refine Ext.ext ?_ _ | with_reducible refine Ext.alloc ?_ _ | with_reducible refine Ext.drew ?_ | with_reducible refine Ext.setCell ?_ (by (try dsimp only); first | omega | (simp; done) | (simp; omega)) _))).cell HK1.out, (show Ext w _ by (show Ext _ _; repeat (first | with_reducible (refine Hid.out ?_; assumption) | with_reducible exact Ext.refl _ | with_reducible refine Ext.ext ?_ _ | with_reducible refine Ext.alloc ?_ _ | with_reducible refine Ext.drew ?_ | with_reducible refine Ext.setCell ?_ (by (try dsimp only); first | omega | (simp; done) | (simp; omega)) _))).cell HK2.out⟩) (fun hHeld => ?_)
      refine take_met 0 (oi := ⟨_, _, _, _, _, _⟩) (v := ?_) (by kernel_rfl) rfl (by rfl) (fun _ _ _ h => h) (by assumption) ?_ ?_
      rotate_left 1
      · intro w hSw
        try dsimp only at hSw
        go_simp
        try with_reducible rfl
      (try simp only [Act.put, List.setIfInBounds_toArray, List.set_cons_zero, List.set_cons_succ])
      refine take_met 1 (oi := ⟨_, _, _, _, _, _⟩) (v := ?_) (by kernel_rfl) rfl (by rfl) (fun _ _ _ h => h) (by assumption) ?_ ?_
      rotate_left 1
      · intro w hSw
        try dsimp only at hSw
        go_simp
        try with_reducible rfl
      (try simp only [Act.put, List.setIfInBounds_toArray, List.set_cons_zero, List.set_cons_succ])
      refine take_met 2 (oi := ⟨_, _, _, _, _, _⟩) (v := ?_) (by kernel_rfl) rfl (by rfl) (fun _ _ _ h => h) (by assumption) ?_ ?_
      rotate_left 1
      · intro w hSw
        try dsimp only at hSw
        go_simp
        try with_reducible rfl
      (try simp only [Act.put, List.setIfInBounds_toArray, List.set_cons_zero, List.set_cons_succ])
      refine take_met 3 (oi := ⟨_, _, _, _, _, _⟩) (v := ?_) (by kernel_rfl) rfl (by rfl) (fun _ _ _ h => h) (by assumption) ?_ ?_
      rotate_left 1
      · intro w hSw
        try dsimp only at hSw
        go_simp
        try with_reducible rfl
      (try simp only [Act.put, List.setIfInBounds_toArray, List.set_cons_zero, List.set_cons_succ])
      refine take_met 4 (oi := ⟨_, _, _, _, _, _⟩) (v := ?_) (by kernel_rfl) rfl (by rfl) (fun _ _ _ h => h) (by assumption) ?_ ?_
      rotate_left 1
      · intro w hSw
        try dsimp only at hSw
        go_simp
        try with_reducible rfl
      (try simp only [Act.put, List.setIfInBounds_toArray, List.set_cons_zero, List.set_cons_succ])
      refine take_met 5 (oi := ⟨_, _, _, _, _, _⟩) (v := ?_) (by kernel_rfl) rfl (by rfl) (fun _ _ _ h => h) (by assumption) ?_ ?_
      rotate_left 1
      · intro w hSw
        try dsimp only at hSw
        go_simp
        try with_reducible rfl
      (try simp only [Act.put, List.setIfInBounds_toArray, List.set_cons_zero, List.set_cons_succ])
      refine take_met 6 (oi := ⟨_, _, _, _, _, _⟩) (v := ?_) (by kernel_rfl) rfl (by rfl) (fun _ _ _ h => h) (by assumption) ?_ ?_
      rotate_left 1
      · intro w hSw
        try dsimp only at hSw
        go_simp
        try with_reducible rfl
      (try simp only [Act.put, List.setIfInBounds_toArray, List.set_cons_zero, List.set_cons_succ])
      refine take_met 7 (oi := ⟨_, _, _, _, _, _⟩) (v := ?_) (by kernel_rfl) rfl (by rfl) (fun _ _ _ h => h) (by assumption) ?_ ?_
      rotate_left 1
      · intro w hSw
        try dsimp only at hSw
        go_simp
        try with_reducible rfl
      (try simp only [Act.put, List.setIfInBounds_toArray, List.set_cons_zero, List.set_cons_succ])
      refine take_met 8 (oi := ⟨_, _, _, _, _, _⟩) (v := ?_) (by kernel_rfl) rfl (by rfl) (fun _ _ _ h => h) (by assumption) ?_ ?_
      rotate_left 1
      · intro w hSw
        try dsimp only at hSw
        go_simp
        try with_reducible rfl
      (try simp only [Act.put, List.setIfInBounds_toArray, List.set_cons_zero, List.set_cons_succ])
      refine take_met 9 (oi := ⟨_, _, _, _, _, _⟩) (v := ?_) (by kernel_rfl) rfl (by rfl) (fun _ _ _ h => h) (by assumption) ?_ ?_
      rotate_left 1
      · intro w hSw
        try dsimp only at hSw
        go_simp
        try with_reducible rfl
      (try simp only [Act.put, List.setIfInBounds_toArray, List.set_cons_zero, List.set_cons_succ])
      refine take_met 10 (oi := ⟨_, _, _, _, _, _⟩) (v := ?_) (by kernel_rfl) rfl (by rfl) (fun _ _ _ h => h) (by assumption) ?_ ?_
      rotate_left 1
      · intro w hSw
        try dsimp only at hSw
        go_simp
        try with_reducible rfl
      (try simp only [Act.put, List.setIfInBounds_toArray, List.set_cons_zero, List.set_cons_succ])
      refine take_met 11 (oi := ⟨_, _, _, _, _, _⟩) (v := ?_) (by kernel_rfl) rfl (by rfl) (fun _ _ _ h => h) (by assumption) ?_ ?_
      rotate_left 1
      · intro w hSw
        try dsimp only at hSw
        go_simp
        try with_reducible rfl
      (try simp only [Act.put, List.setIfInBounds_toArray, List.set_cons_zero, List.set_cons_succ])
      refine take_met 12 (oi := ⟨_, _, _, _, _, _⟩) (v := ?_) (by kernel_rfl) rfl (by rfl) (fun _ _ _ h => h) (by assumption) ?_ ?_
      rotate_left 1
      · intro w hSw
        try dsimp only at hSw
        go_simp
        try with_reducible rfl
      (try simp only [Act.put, List.setIfInBounds_toArray, List.set_cons_zero, List.set_cons_succ])
      refine take_met 13 (oi := ⟨_, _, _, _, _, _⟩) (v := ?_) (by kernel_rfl) rfl (by rfl) (fun _ _ _ h => h) (by assumption) ?_ ?_
      rotate_left 1
      · intro w hSw
        try dsimp only at hSw
        go_simp
        try with_reducible rfl
      (try simp only [Act.put, List.setIfInBounds_toArray, List.set_cons_zero, List.set_cons_succ])
      refine take_met 14 (oi := ⟨_, _, _, _, _, _⟩) (v := ?_) (by kernel_rfl) rfl (by rfl) (fun _ _ _ h => h) (by assumption) ?_ ?_
      rotate_left 1
      · intro w hSw
        try dsimp only at hSw
        go_simp
        try with_reducible rfl
      (try simp only [Act.put, List.setIfInBounds_toArray, List.set_cons_zero, List.set_cons_succ])
      refine take_met 15 (oi := ⟨_, _, _, _, _, _⟩) (v := ?_) (by kernel_rfl) rfl (by rfl) (fun _ _ _ h => h) (by assumption) ?_ ?_
      rotate_left 1
      · intro w hSw
        try dsimp only at hSw
        go_simp
        try with_reducible rfl
      (try simp only [Act.put, List.setIfInBounds_toArray, List.set_cons_zero, List.set_cons_succ])
      refine take_met 16 (oi := ⟨_, _, _, _, _, _⟩) (v := ?_) (by kernel_rfl) rfl (by rfl) (fun _ _ _ h => h) (by assumption) ?_ ?_
      rotate_left 1
      · intro w hSw
        try dsimp only at hSw
        go_simp
        try with_reducible rfl
      (try simp only [Act.put, List.setIfInBounds_toArray, List.set_cons_zero, List.set_cons_succ])
      refine take_met 17 (oi := ⟨_, _, _, _, _, _⟩) (v := ?_) (by kernel_rfl) rfl (by rfl) (fun _ _ _ h => h) (by assumption) ?_ ?_
      rotate_left 1
      · intro w hSw
        try dsimp only at hSw
        go_simp
        try with_reducible rfl
      (try simp only [Act.put, List.setIfInBounds_toArray, List.set_cons_zero, List.set_cons_succ])
      refine take_met 18 (oi := ⟨_, _, _, _, _, _⟩) (v := ?_) (by kernel_rfl) rfl (by rfl) (fun _ _ _ h => h) (by assumption) ?_ ?_
      rotate_left 1
      · intro w hSw
        try dsimp only at hSw
        go_simp
        try with_reducible rfl
      (try simp only [Act.put, List.setIfInBounds_toArray, List.set_cons_zero, List.set_cons_succ])
      refine take_only 19 (oi := ⟨_, _, _, _, _, _⟩) (by kernel_rfl) rfl (fun K hK => ?_)
      go_simp
      have hOld := hHeld
      clear hHeld
      refine hK.out _ _ (by exact ⟨(show Blk _ na [.int .i64 ua, .int .i64 qa, .int .i64 ta, .slice (some ⟨b0, o, none⟩) ea.length ca] by (show Blk _ _ _; repeat (first | with_reducible (refine Hid.out ?_; assumption) | with_reducible apply Blk.drew | with_reducible apply Blk.ext | ((with_reducible refine Blk.new _ _ rfl ?_); first | with_reducible rfl | focus (simp; done)) | ((with_reducible apply Blk.newE); first | with_reducible rfl | focus (simp; done)) | with_reducible apply Blk.alloc | with_reducible assumption | with_reducible apply Blk.setE | ((with_reducible refine Blk.other' ?_ ?_); first | omega | (simp; omega)) | (show List.set _ _ _ = _; exact rfl) | focus (show _ < List.length _; simp; done)))).2.2 3 _ rfl, (show Ext w _ by (show Ext _ _; repeat (first | with_reducible (refine Hid.out ?_; assumption) | with_reducible exact Ext.refl _ | with_reducible refine Ext.ext ?_ _ | with_reducible refine Ext.alloc ?_ _ | with_reducible refine Ext.drew ?_ | with_reducible refine Ext.setCell ?_ (by (try dsimp only); first | omega | (simp; done) | (simp; omega)) _))).cell HK1.out, (show Ext w _ by (show Ext _ _; repeat (first | with_reducible (refine Hid.out ?_; assumption) | with_reducible exact Ext.refl _ | with_reducible refine Ext.ext ?_ _ | with_reducible refine Ext.alloc ?_ _ | with_reducible refine Ext.drew ?_ | with_reducible refine Ext.setCell ?_ (by (try dsimp only); first | omega | (simp; done) | (simp; omega)) _))).cell HK2.out⟩) (fun hHeld => ?_)
      clear hOld hK K
      (try simp only [Act.put, List.setIfInBounds_toArray, List.set_cons_zero, List.set_cons_succ])
      refine wpAnyH_done (by kernel_rfl) ?_ _
      go_wp2_with fail
      go_roundw
      case rel => exact ⟨j + 1, by omega, by go_num, hid (by rw [HA.out, Int.toNat_natCast]; exact Ws.put (HL.out.of (by (show Ext _ _; repeat (first | with_reducible (refine Hid.out ?_; assumption) | with_reducible exact Ext.refl _ | with_reducible refine Ext.ext ?_ _ | with_reducible refine Ext.alloc ?_ _ | refine Ext.drew ?_ | refine Ext.drewN ?_ _ | exact Ext.refl _)))) (by rw [HLnj.out]; exact HPq.out) val ver rr), hid ((((HG.out.ext r6).drew.setCell _ _).setCell _ _).setCell _ _)⟩
      case measure => simp [intOf]; omega
  have hd : decide (j < ea.length) = false := decide_eq_false hjl
  obtain rfl : j = ea.length := by omega
  clear hjl hj
  obtain ⟨L2, hL2⟩ : ∃ L2, L2 = instTo T C B L1 ea rr ea.length := ⟨_, rfl⟩
  rw [← hL2] at HL
  have HLo2 := hid (show ∀ a ∈ L2, WdOk a by rw [hL2]; exact instTo_ok HLo1.out HOA.out HRb.out _)
  have HLn2 := hid (show L2.length = sz by rw [hL2, instTo_len]; exact HLn1.out)
  have HF2 := hid (show (L2.length : Int) = sizeN T C B by rw [HLn2.out]; exact HSz.out)
  have HSl := hid (show Sl wr 3 wdE (.slice (some ⟨g, 0, none⟩) sz c8) L2 from Sl.of_own wdE_len HL.out)
  have HRoom := hid (fun who h0 h1 => rroom (n := (L2.length : Int)) (HPl.out who h0 h1) (by rw [HF2.out]; exact Int.le_refl _))
  have HNk := hid (show ¬ (checkN T C B ≠ 0 ∨ (L2.length : Int) < sizeN T C B) by rintro (h | h); exact h HCk.out; rw [HF2.out] at h; omega)
  obtain ⟨Y, rfl⟩ : ∃ Y : World, Y = wr := ⟨_, rfl⟩
  clear hL2 HL HG HLo1 HLn1 HF1 HRr HRb hgw a0 a1 a2 a3 a4 l0 l1 l2 l4 p0 p1 p2 p3 p4 p5 p6 p7 p8 HEZ HEPZ HBaZ HBlZ HBpZ hgZ
  obtain ⟨a0, a1, a2, a3⟩ := HBaw.out.four
  go_wp2_with fail
  clear a0 a1 a2 a3
  go_loopw [15] (fun i wr => ∃ j : Nat, j ≤ sz ∧ i = .int .i64 j ∧ Hid (Ext Y wr)) (fun i _ => sz - (intOf i).toNat)
  case atStart => exact ⟨0, by omega, rfl, hid (Ext.refl _)⟩
  case round =>
  obtain ⟨j, hj, rfl, HX⟩ := hrel
  have HEx := hid (HEw.out.trans HX.out)
  have HEPx := hid (HEPw.out.trans HX.out)
  have HSx := hid (HSl.out.of wdE_len HX.out)
  obtain ⟨l0, l1, l2⟩ := (HBlw.out.of HX.out).three
  have l4 := (HBlw.out.of HX.out).1
  obtain ⟨p0, p1, p2, p3, p4, p5, p6, p7⟩ := (HBpw.out.of HX.out).eight
  have p8 := (HBpw.out.of HX.out).1
  by_cases hjl : j < sz
  · have hd : decide (j < sz) = true := decide_eq_true hjl
    have hjj : (j : Int) < (sz : Int) := by omega
    cases hm : mayN T C B j
    · have HM := hid hm
      have HLg := hid (show logicN T C B L2 j = ((0, 0, 0), 10) by unfold logicN; rw [if_neg HNk.out, if_pos hm])
      have hn1 := neq_word 0 0 0 0 0 0
      rw [wdB_self] at hn1
      have hga := eq_guard_word
      clear hm
      go_wp2_with fail
      refine (logical_any T C B j (by omega) (by omega) L2 _ HLo2.out _ (HS.out.of (HEx.out.trans (by (show Ext _ _; repeat (first | with_reducible (refine Hid.out ?_; assumption) | with_reducible exact Ext.refl _ | with_reducible refine Ext.ext ?_ _ | with_reducible refine Ext.alloc ?_ _ | refine Ext.drew ?_ | refine Ext.drewN ?_ _ | exact Ext.refl _))))) (HSx.out.of wdE_len (by (show Ext _ _; repeat (first | with_reducible (refine Hid.out ?_; assumption) | with_reducible exact Ext.refl _ | with_reducible refine Ext.ext ?_ _ | with_reducible refine Ext.alloc ?_ _ | refine Ext.drew ?_ | refine Ext.drewN ?_ _ | exact Ext.refl _))))).mono ?_
      rintro y w' ⟨rfl, r5, rfl⟩
      rw [HLg.out]
      dsimp only
      go_wp2_with fail
      refine (rmay_any T B sl rm 104 32 sz _ _ j _ (HPs.out.of boE_len (HEPx.out.trans (by (show Ext _ _; repeat (first | with_reducible (refine Hid.out ?_; assumption) | with_reducible exact Ext.refl _ | with_reducible refine Ext.ext ?_ _ | with_reducible refine Ext.alloc ?_ _ | refine Ext.drew ?_ | refine Ext.drewN ?_ _ | exact Ext.refl _)))))).mono ?_
      rintro e w' ⟨rfl, r6, rfl⟩
      rw [HMay.out, HM.out]
      go_wp2_with fail
      go_roundw
      case rel => exact ⟨j + 1, by omega, by go_num, hid (HX.out.trans (by (show Ext _ _; repeat (first | with_reducible (refine Hid.out ?_; assumption) | with_reducible exact Ext.refl _ | with_reducible refine Ext.ext ?_ _ | with_reducible refine Ext.alloc ?_ _ | refine Ext.drew ?_ | refine Ext.drewN ?_ _ | exact Ext.refl _))))⟩
      case measure => simp [intOf]; omega
    · have HM := hid hm
      obtain ⟨⟨x1, x2, x3⟩, hx⟩ : ∃ x, L2[j]? = some x := ⟨_, List.getElem?_eq_getElem (by rw [HLn2.out]; exact hjl)⟩
      have hxk := HLo2.out _ (List.mem_of_getElem? hx)
      have HQx := hid (show 0 ≤ x3 ∧ x3 ≤ 4294967295 from hxk.2.2)
      obtain ⟨⟨q1, q2, q3⟩, hq⟩ : ∃ q, q = logicW T C B L2 (x1, x2, x3) j := ⟨_, rfl⟩
      have HLg := hid (show logicN T C B L2 j = ((q1, q2, q3), 0) by
        unfold logicN; rw [if_neg HNk.out, if_neg (by rw [hm]; simp), Int.toNat_natCast, hx]; dsimp only; rw [hq])
      have HRg := hid (show rlogW (rreadO T B sl rm (mayL T C B sz) L2) (x1, x2, x3) j = (q1, q2, q3) by
        rw [hq, ← rlog_law (by omega) (by omega) (x1, x2, x3) HQx.out j]
        exact rlog_same (HRdl.out L2 HLn2.out _ (by dsimp only; have := HQx.out; omega) (by dsimp only; have := HQx.out; omega)))
      have HXj := hid hx
      have hn1 := neq_word q1 q2 q3 q1 q2 q3
      rw [wdB_self] at hn1
      have hga := eq_guard_word
      clear hm hx hq hxk
      go_wp2_with fail
      refine (logical_any T C B j (by omega) (by omega) L2 _ HLo2.out _ (HS.out.of (HEx.out.trans (by (show Ext _ _; repeat (first | with_reducible (refine Hid.out ?_; assumption) | with_reducible exact Ext.refl _ | with_reducible refine Ext.ext ?_ _ | with_reducible refine Ext.alloc ?_ _ | refine Ext.drew ?_ | refine Ext.drewN ?_ _ | exact Ext.refl _))))) (HSx.out.of wdE_len (by (show Ext _ _; repeat (first | with_reducible (refine Hid.out ?_; assumption) | with_reducible exact Ext.refl _ | with_reducible refine Ext.ext ?_ _ | with_reducible refine Ext.alloc ?_ _ | refine Ext.drew ?_ | refine Ext.drewN ?_ _ | exact Ext.refl _))))).mono ?_
      rintro y w' ⟨rfl, r5, rfl⟩
      rw [HLg.out]
      dsimp only
      go_wp2_with fail
      refine (rmay_any T B sl rm 104 32 sz _ _ j _ (HPs.out.of boE_len (HEPx.out.trans (by (show Ext _ _; repeat (first | with_reducible (refine Hid.out ?_; assumption) | with_reducible exact Ext.refl _ | with_reducible refine Ext.ext ?_ _ | with_reducible refine Ext.alloc ?_ _ | refine Ext.drew ?_ | refine Ext.drewN ?_ _ | exact Ext.refl _)))))).mono ?_
      rintro e w' ⟨rfl, r6, rfl⟩
      rw [HMay.out, HM.out]
      go_upto_region 24 with fail
      generalize hU : ext _ r6 = U
      have HEU := hid (show Ext wr U by rw [← hU]; (show Ext _ _; repeat (first | with_reducible (refine Hid.out ?_; assumption) | with_reducible exact Ext.refl _ | with_reducible refine Ext.ext ?_ _ | with_reducible refine Ext.alloc ?_ _ | refine Ext.drew ?_ | refine Ext.drewN ?_ _ | exact Ext.refl _)))
      have HBu := hid (show Blk U (wr.heap.size + r5.new.size) [.int .i64 q1, .int .u32 q2, .int .u32 q3] by rw [← hU]; (show Blk _ _ _; repeat (first | with_reducible (refine Hid.out ?_; assumption) | with_reducible refine Blk.drew ?_ | with_reducible refine Blk.ext ?_ _ | (with_reducible refine Blk.new _ _ rfl ?_; first | with_reducible rfl | (simp; done)) | with_reducible refine Blk.alloc ?_ _ | with_reducible assumption | with_reducible apply Blk.setE | (with_reducible refine Blk.other' ?_ ?_; first | omega | (simp; omega)) | (show List.set _ _ _ = _; exact rfl) | (show _ < List.length _; simp; done))))
      generalize wr.heap.size + r5.new.size = nu at *
      clear hU l0 l1 l2 l4 p0 p1 p2 p3 p4 p5 p6 p7 p8
      have HBpU := hid ((HBpw.out.of HX.out).of HEU.out)
      refine wp_region_held_drew (S := fun w' => (w'.cell? ⟨nu, 0, none⟩ = some (.int .i64 q1) ∧ w'.cell? ⟨nu, 1, none⟩ = some (.int .u32 q2) ∧ w'.cell? ⟨nu, 2, none⟩ = some (.int .u32 q3)) ∧ (w'.cell? ⟨np, 0, none⟩ = some (.int .i64 T) ∧ w'.cell? ⟨np, 1, none⟩ = some (.int .i64 B) ∧ w'.cell? ⟨np, 2, none⟩ = some (.int .i64 sl) ∧ w'.cell? ⟨np, 3, none⟩ = some (.int .i64 rm) ∧ w'.cell? ⟨np, 4, none⟩ = some (.int .i64 104) ∧ w'.cell? ⟨np, 5, none⟩ = some (.int .i64 32) ∧ w'.cell? ⟨np, 6, none⟩ = some (.slice av (mayL T C B sz).length cv) ∧ w'.cell? ⟨np, 7, none⟩ = some (.int .i64 sz))) (by kernel_rfl) (by exact ⟨(HBu.out.of (show Ext U _ by (show Ext _ _; repeat (first | with_reducible (refine Hid.out ?_; assumption) | with_reducible exact Ext.refl _ | with_reducible refine Ext.ext ?_ _ | with_reducible refine Ext.alloc ?_ _ | with_reducible refine Ext.drew ?_ | with_reducible refine Ext.setCell ?_ (by (try dsimp only); first | omega | (simp; done) | (simp; omega)) _)))).three, (HBpU.out.of (show Ext U _ by (show Ext _ _; repeat (first | with_reducible (refine Hid.out ?_; assumption) | with_reducible exact Ext.refl _ | with_reducible refine Ext.ext ?_ _ | with_reducible refine Ext.alloc ?_ _ | with_reducible refine Ext.drew ?_ | with_reducible refine Ext.setCell ?_ (by (try dsimp only); first | omega | (simp; done) | (simp; omega)) _)))).eight⟩) (fun hHeld => ?_)
      refine take_met 0 (oi := ⟨_, _, _, _, _, _⟩) (v := ?_) (by kernel_rfl) rfl (by rfl) (fun _ _ _ h => h) (by assumption) ?_ ?_
      rotate_left 1
      · intro w hSw
        try dsimp only at hSw
        go_simp
        try with_reducible rfl
      (try simp only [Act.put, List.setIfInBounds_toArray, List.set_cons_zero, List.set_cons_succ])
      refine take_met 1 (oi := ⟨_, _, _, _, _, _⟩) (v := ?_) (by kernel_rfl) rfl (by rfl) (fun _ _ _ h => h) (by assumption) ?_ ?_
      rotate_left 1
      · intro w hSw
        try dsimp only at hSw
        go_simp
        try with_reducible rfl
      (try simp only [Act.put, List.setIfInBounds_toArray, List.set_cons_zero, List.set_cons_succ])
      refine take_met 2 (oi := ⟨_, _, _, _, _, _⟩) (v := ?_) (by kernel_rfl) rfl (by rfl) (fun _ _ _ h => h) (by assumption) ?_ ?_
      rotate_left 1
      · intro w hSw
        try dsimp only at hSw
        go_simp
        try with_reducible rfl
      (try simp only [Act.put, List.setIfInBounds_toArray, List.set_cons_zero, List.set_cons_succ])
      refine take_met 3 (oi := ⟨_, _, _, _, _, _⟩) (v := ?_) (by kernel_rfl) rfl (by rfl) (fun _ _ _ h => h) (by assumption) ?_ ?_
      rotate_left 1
      · intro w hSw
        try dsimp only at hSw
        go_simp
        try with_reducible rfl
      (try simp only [Act.put, List.setIfInBounds_toArray, List.set_cons_zero, List.set_cons_succ])
      refine take_met 4 (oi := ⟨_, _, _, _, _, _⟩) (v := ?_) (by kernel_rfl) rfl (by rfl) (fun _ _ _ h => h) (by assumption) ?_ ?_
      rotate_left 1
      · intro w hSw
        try dsimp only at hSw
        go_simp
        try with_reducible rfl
      (try simp only [Act.put, List.setIfInBounds_toArray, List.set_cons_zero, List.set_cons_succ])
      refine take_met 5 (oi := ⟨_, _, _, _, _, _⟩) (v := ?_) (by kernel_rfl) rfl (by rfl) (fun _ _ _ h => h) (by assumption) ?_ ?_
      rotate_left 1
      · intro w hSw
        try dsimp only at hSw
        go_simp
        try with_reducible rfl
      (try simp only [Act.put, List.setIfInBounds_toArray, List.set_cons_zero, List.set_cons_succ])
      refine take_met 6 (oi := ⟨_, _, _, _, _, _⟩) (v := ?_) (by kernel_rfl) rfl (by rfl) (fun _ _ _ h => h) (by assumption) ?_ ?_
      rotate_left 1
      · intro w hSw
        try dsimp only at hSw
        go_simp
        try with_reducible rfl
      (try simp only [Act.put, List.setIfInBounds_toArray, List.set_cons_zero, List.set_cons_succ])
      refine take_only 7 (oi := ⟨_, _, _, _, _, _⟩) (by kernel_rfl) rfl (fun K hK => ?_)
      go_simp
      first
        | (go_at_call 26; refine (rlogical_any T B sl rm sz (by omega) (by omega) ⟨by omega, hslb⟩ ⟨by omega, hrmb⟩ (mayL T C B sz) _ L2 _ HLo2.out (fun who h0 h1 h => HRoom.out who h0 h1 (by omega)) j x1 x2 x3 HXj.out _ (HPs.out.of boE_len (HEPx.out.trans (HEU.out.trans (by (show Ext _ _; repeat (first | with_reducible (refine Hid.out ?_; assumption) | with_reducible exact Ext.refl _ | with_reducible refine Ext.ext ?_ _ | with_reducible refine Ext.alloc ?_ _ | refine Ext.drew ?_ | refine Ext.drewN ?_ _ | exact Ext.refl _)))))) (HSx.out.of wdE_len (HEU.out.trans (by (show Ext _ _; repeat (first | with_reducible (refine Hid.out ?_; assumption) | with_reducible exact Ext.refl _ | with_reducible refine Ext.ext ?_ _ | with_reducible refine Ext.alloc ?_ _ | refine Ext.drew ?_ | refine Ext.drewN ?_ _ | exact Ext.refl _)))))).mono ?_; rintro e w' ⟨⟨r7, rfl⟩, rfl⟩; rw [HRg.out]; dsimp only)
      have hOld := hHeld
      clear hHeld
      refine hK.out _ _ (by exact ⟨(HBu.out.of (show Ext U _ by (show Ext _ _; repeat (first | with_reducible (refine Hid.out ?_; assumption) | with_reducible exact Ext.refl _ | with_reducible refine Ext.ext ?_ _ | with_reducible refine Ext.alloc ?_ _ | with_reducible refine Ext.drew ?_ | with_reducible refine Ext.setCell ?_ (by (try dsimp only); first | omega | (simp; done) | (simp; omega)) _)))).three, (HBpU.out.of (show Ext U _ by (show Ext _ _; repeat (first | with_reducible (refine Hid.out ?_; assumption) | with_reducible exact Ext.refl _ | with_reducible refine Ext.ext ?_ _ | with_reducible refine Ext.alloc ?_ _ | with_reducible refine Ext.drew ?_ | with_reducible refine Ext.setCell ?_ (by (try dsimp only); first | omega | (simp; done) | (simp; omega)) _)))).eight⟩) (fun hHeld => ?_)
      clear hOld hK K
      (try simp only [Act.put, List.setIfInBounds_toArray, List.set_cons_zero, List.set_cons_succ])
      refine take_met 8 (oi := ⟨_, _, _, _, _, _⟩) (v := ?_) (by kernel_rfl) rfl (by rfl) (fun _ _ _ h => h) (by assumption) ?_ ?_
      rotate_left 1
      · intro w hSw
        try dsimp only at hSw
        go_simp
        try with_reducible rfl
      (try simp only [Act.put, List.setIfInBounds_toArray, List.set_cons_zero, List.set_cons_succ])
      refine take_met 9 (oi := ⟨_, _, _, _, _, _⟩) (v := ?_) (by kernel_rfl) rfl (by rfl) (fun _ _ _ h => h) (by assumption) ?_ ?_
      rotate_left 1
      · intro w hSw
        try dsimp only at hSw
        go_simp
        try with_reducible rfl
      (try simp only [Act.put, List.setIfInBounds_toArray, List.set_cons_zero, List.set_cons_succ])
      refine wpAnyH_done (by kernel_rfl) ?_ _
      go_wp2_with fail
      go_roundw
      case rel => exact ⟨j + 1, by omega, by go_num, hid (HX.out.trans (HEU.out.trans (by (show Ext _ _; repeat (first | with_reducible (refine Hid.out ?_; assumption) | with_reducible exact Ext.refl _ | with_reducible refine Ext.ext ?_ _ | with_reducible refine Ext.alloc ?_ _ | refine Ext.drew ?_ | refine Ext.drewN ?_ _ | exact Ext.refl _)))))⟩
      case measure => simp [intOf]; omega
  have hd : decide (j < sz) = false := decide_eq_false hjl
  obtain rfl : j = sz := by omega
  have HM := hid (show mayN T C B j = false by
    cases h : mayN T C B j
    · rfl
    · have := (may_bds h).2.2
      rw [← HSz.out] at this
      omega)
  have HLg := hid (show logicN T C B L2 j = ((0, 0, 0), 10) by unfold logicN; rw [if_neg HNk.out, if_pos HM.out])
  go_wp2_with fail
  refine (logical_any T C B j (by omega) (by omega) L2 _ HLo2.out _ (HS.out.of (HEx.out.trans (by (show Ext _ _; repeat (first | with_reducible (refine Hid.out ?_; assumption) | with_reducible exact Ext.refl _ | with_reducible refine Ext.ext ?_ _ | with_reducible refine Ext.alloc ?_ _ | refine Ext.drew ?_ | refine Ext.drewN ?_ _ | exact Ext.refl _))))) (HSx.out.of wdE_len (by (show Ext _ _; repeat (first | with_reducible (refine Hid.out ?_; assumption) | with_reducible exact Ext.refl _ | with_reducible refine Ext.ext ?_ _ | with_reducible refine Ext.alloc ?_ _ | refine Ext.drew ?_ | refine Ext.drewN ?_ _ | exact Ext.refl _))))).mono ?_
  rintro y w' ⟨rfl, r5, rfl⟩
  rw [HLg.out]
  dsimp only
  go_upto_region 27 with fail
  generalize hU : World.alloc _ _ = U
  have HEU := hid (show Ext wr U by rw [← hU]; (show Ext _ _; repeat (first | with_reducible (refine Hid.out ?_; assumption) | with_reducible exact Ext.refl _ | with_reducible refine Ext.ext ?_ _ | with_reducible refine Ext.alloc ?_ _ | refine Ext.drew ?_ | refine Ext.drewN ?_ _ | exact Ext.refl _)))
  have HEUw := hid (HEx.out.trans HEU.out)
  have HSlU := hid (HSx.out.of wdE_len HEU.out)
  have hc1 : ¬ c8 = 1 := by have := HSlU.out.cap; omega
  have hs1 : (1 : Int) ≤ (j : Int) := by omega
  have HD1 := hid (Sl.dropB HSlU.out 1 (by have := HLn2.out; omega) hc1)
  have HSh := hid (show logicN T C B (L2.drop 1) 0 = ((0, 0, 0), 1) by
    unfold logicN; rw [if_pos (.inr (by rw [List.length_drop]; have := HF2.out; have := HLn2.out; omega))])
  have HDo := hid (show ∀ a ∈ L2.drop 1, WdOk a from fun a ha => HLo2.out a (List.mem_of_mem_drop ha))
  clear hU l0 l1 l2 l4 p0 p1 p2 p3 p4 p5 p6 p7 p8
  obtain ⟨l0, l1, l2⟩ := ((HBlw.out.of HX.out).of HEU.out).three
  have l4 := ((HBlw.out.of HX.out).of HEU.out).1
  go_cut [21] (fun f wx => f = .int .i64 1 ∧ Ext U wx)
  case first =>
    refine wp_region_held_drew (S := fun w' => (w'.cell? ⟨nl, 0, none⟩ = some (.int .i64 T) ∧ w'.cell? ⟨nl, 1, none⟩ = some (.int .i64 C) ∧ w'.cell? ⟨nl, 2, none⟩ = some (.int .i64 B))) (by kernel_rfl) (by exact ⟨(show Ext U _ by (show Ext _ _; repeat (first | with_reducible (refine Hid.out ?_; assumption) | with_reducible exact Ext.refl _ | with_reducible refine Ext.ext ?_ _ | with_reducible refine Ext.alloc ?_ _ | with_reducible refine Ext.drew ?_ | with_reducible refine Ext.setCell ?_ (by (try dsimp only); first | omega | (simp; done) | (simp; omega)) _))).cell l0, (show Ext U _ by (show Ext _ _; repeat (first | with_reducible (refine Hid.out ?_; assumption) | with_reducible exact Ext.refl _ | with_reducible refine Ext.ext ?_ _ | with_reducible refine Ext.alloc ?_ _ | with_reducible refine Ext.drew ?_ | with_reducible refine Ext.setCell ?_ (by (try dsimp only); first | omega | (simp; done) | (simp; omega)) _))).cell l1, (show Ext U _ by (show Ext _ _; repeat (first | with_reducible (refine Hid.out ?_; assumption) | with_reducible exact Ext.refl _ | with_reducible refine Ext.ext ?_ _ | with_reducible refine Ext.alloc ?_ _ | with_reducible refine Ext.drew ?_ | with_reducible refine Ext.setCell ?_ (by (try dsimp only); first | omega | (simp; done) | (simp; omega)) _))).cell l2⟩) (fun hHeld => ?_)
    refine take_met 0 (oi := ⟨_, _, _, _, _, _⟩) (v := ?_) (by kernel_rfl) rfl (by rfl) (fun _ _ _ h => h) (by assumption) ?_ ?_
    rotate_left 1
    · intro w hSw
      try dsimp only at hSw
      go_simp
      try with_reducible rfl
    (try simp only [Act.put, List.setIfInBounds_toArray, List.set_cons_zero, List.set_cons_succ])
    refine take_met 1 (oi := ⟨_, _, _, _, _, _⟩) (v := ?_) (by kernel_rfl) rfl (by rfl) (fun _ _ _ h => h) (by assumption) ?_ ?_
    rotate_left 1
    · intro w hSw
      try dsimp only at hSw
      go_simp
      try with_reducible rfl
    (try simp only [Act.put, List.setIfInBounds_toArray, List.set_cons_zero, List.set_cons_succ])
    refine take_met 2 (oi := ⟨_, _, _, _, _, _⟩) (v := ?_) (by kernel_rfl) rfl (by rfl) (fun _ _ _ h => h) (by assumption) ?_ ?_
    rotate_left 1
    · intro w hSw
      try dsimp only at hSw
      go_simp
      try with_reducible rfl
    (try simp only [Act.put, List.setIfInBounds_toArray, List.set_cons_zero, List.set_cons_succ])
    refine wpAnyH_ready (rs := [3, 7]) (by kernel_rfl) (by simp) ?_
    refine AllReadyH.cons (o := ⟨_, _, _, _, _, _⟩) rfl (fun K hK => ?_) ?_
    · skip
      go_simp
      first
        | (go_at_call 25; refine (logical_any T C B 0 (by omega) (by omega) (L2.drop 1) _ HDo.out _ (HS.out.of (HEUw.out.trans (by (show Ext _ _; repeat (first | with_reducible (refine Hid.out ?_; assumption) | with_reducible exact Ext.refl _ | with_reducible refine Ext.ext ?_ _ | with_reducible refine Ext.alloc ?_ _ | refine Ext.drew ?_ | refine Ext.drewN ?_ _ | exact Ext.refl _))))) (HD1.out.of wdE_len (by (show Ext _ _; repeat (first | with_reducible (refine Hid.out ?_; assumption) | with_reducible exact Ext.refl _ | with_reducible refine Ext.ext ?_ _ | with_reducible refine Ext.alloc ?_ _ | refine Ext.drew ?_ | refine Ext.drewN ?_ _ | exact Ext.refl _))))).mono ?_; rintro y w' ⟨rfl, r8, rfl⟩; rw [HSh.out]; dsimp only)
      have hOld := hHeld
      clear hHeld
      refine hK.out _ _ (by exact ⟨(show Ext U _ by (show Ext _ _; repeat (first | with_reducible (refine Hid.out ?_; assumption) | with_reducible exact Ext.refl _ | with_reducible refine Ext.ext ?_ _ | with_reducible refine Ext.alloc ?_ _ | with_reducible refine Ext.drew ?_ | with_reducible refine Ext.setCell ?_ (by (try dsimp only); first | omega | (simp; done) | (simp; omega)) _))).cell l0, (show Ext U _ by (show Ext _ _; repeat (first | with_reducible (refine Hid.out ?_; assumption) | with_reducible exact Ext.refl _ | with_reducible refine Ext.ext ?_ _ | with_reducible refine Ext.alloc ?_ _ | with_reducible refine Ext.drew ?_ | with_reducible refine Ext.setCell ?_ (by (try dsimp only); first | omega | (simp; done) | (simp; omega)) _))).cell l1, (show Ext U _ by (show Ext _ _; repeat (first | with_reducible (refine Hid.out ?_; assumption) | with_reducible exact Ext.refl _ | with_reducible refine Ext.ext ?_ _ | with_reducible refine Ext.alloc ?_ _ | with_reducible refine Ext.drew ?_ | with_reducible refine Ext.setCell ?_ (by (try dsimp only); first | omega | (simp; done) | (simp; omega)) _))).cell l2⟩) (fun hHeld => ?_)
      clear hOld hK K
      (try simp only [Act.put, List.setIfInBounds_toArray, List.set_cons_zero, List.set_cons_succ])
      refine take_met 4 (oi := ⟨_, _, _, _, _, _⟩) (v := ?_) (by kernel_rfl) rfl (by rfl) (fun _ _ _ h => h) (by assumption) ?_ ?_
      rotate_left 1
      · intro w hSw
        try dsimp only at hSw
        go_simp
        try with_reducible rfl
      (try simp only [Act.put, List.setIfInBounds_toArray, List.set_cons_zero, List.set_cons_succ])
      refine take_met 5 (oi := ⟨_, _, _, _, _, _⟩) (v := ?_) (by kernel_rfl) rfl (by rfl) (fun _ _ _ h => h) (by assumption) ?_ ?_
      rotate_left 1
      · intro w hSw
        try dsimp only at hSw
        go_simp
        try with_reducible rfl
      (try simp only [Act.put, List.setIfInBounds_toArray, List.set_cons_zero, List.set_cons_succ])
      refine take_met 6 (oi := ⟨_, _, _, _, _, _⟩) (v := ?_) (by kernel_rfl) rfl (by rfl) (fun _ _ _ h => h) (by assumption) ?_ ?_
      rotate_left 1
      · intro w hSw
        try dsimp only at hSw
        go_simp
        try with_reducible rfl
      (try simp only [Act.put, List.setIfInBounds_toArray, List.set_cons_zero, List.set_cons_succ])
      refine take_only 7 (oi := ⟨_, _, _, _, _, _⟩) (by kernel_rfl) rfl (fun K hK => ?_)
      go_simp
      have hOld := hHeld
      clear hHeld
      refine hK.out _ _ (by exact ⟨(show Ext U _ by (show Ext _ _; repeat (first | with_reducible (refine Hid.out ?_; assumption) | with_reducible exact Ext.refl _ | with_reducible refine Ext.ext ?_ _ | with_reducible refine Ext.alloc ?_ _ | with_reducible refine Ext.drew ?_ | with_reducible refine Ext.setCell ?_ (by (try dsimp only); first | omega | (simp; done) | (simp; omega)) _))).cell l0, (show Ext U _ by (show Ext _ _; repeat (first | with_reducible (refine Hid.out ?_; assumption) | with_reducible exact Ext.refl _ | with_reducible refine Ext.ext ?_ _ | with_reducible refine Ext.alloc ?_ _ | with_reducible refine Ext.drew ?_ | with_reducible refine Ext.setCell ?_ (by (try dsimp only); first | omega | (simp; done) | (simp; omega)) _))).cell l1, (show Ext U _ by (show Ext _ _; repeat (first | with_reducible (refine Hid.out ?_; assumption) | with_reducible exact Ext.refl _ | with_reducible refine Ext.ext ?_ _ | with_reducible refine Ext.alloc ?_ _ | with_reducible refine Ext.drew ?_ | with_reducible refine Ext.setCell ?_ (by (try dsimp only); first | omega | (simp; done) | (simp; omega)) _))).cell l2⟩) (fun hHeld => ?_)
      clear hOld hK K
      (try simp only [Act.put, List.setIfInBounds_toArray, List.set_cons_zero, List.set_cons_succ])
      refine take_only 8 (oi := ⟨_, _, _, _, _, _⟩) (by kernel_rfl) rfl (fun K hK => ?_)
      go_simp
      have hOld := hHeld
      clear hHeld
      refine hK.out _ _ (by exact ⟨(show Ext U _ by (show Ext _ _; repeat (first | with_reducible (refine Hid.out ?_; assumption) | with_reducible exact Ext.refl _ | with_reducible refine Ext.ext ?_ _ | with_reducible refine Ext.alloc ?_ _ | with_reducible refine Ext.drew ?_ | with_reducible refine Ext.setCell ?_ (by (try dsimp only); first | omega | (simp; done) | (simp; omega)) _))).cell l0, (show Ext U _ by (show Ext _ _; repeat (first | with_reducible (refine Hid.out ?_; assumption) | with_reducible exact Ext.refl _ | with_reducible refine Ext.ext ?_ _ | with_reducible refine Ext.alloc ?_ _ | with_reducible refine Ext.drew ?_ | with_reducible refine Ext.setCell ?_ (by (try dsimp only); first | omega | (simp; done) | (simp; omega)) _))).cell l1, (show Ext U _ by (show Ext _ _; repeat (first | with_reducible (refine Hid.out ?_; assumption) | with_reducible exact Ext.refl _ | with_reducible refine Ext.ext ?_ _ | with_reducible refine Ext.alloc ?_ _ | with_reducible refine Ext.drew ?_ | with_reducible refine Ext.setCell ?_ (by (try dsimp only); first | omega | (simp; done) | (simp; omega)) _))).cell l2⟩) (fun hHeld => ?_)
      clear hOld hK K
      (try simp only [Act.put, List.setIfInBounds_toArray, List.set_cons_zero, List.set_cons_succ])
      refine take_met 9 (oi := ⟨_, _, _, _, _, _⟩) (v := ?_) (by kernel_rfl) rfl (by rfl) (fun _ _ _ h => h) (by assumption) ?_ ?_
      rotate_left 1
      · intro w hSw
        try dsimp only at hSw
        go_simp
        try with_reducible rfl
      (try simp only [Act.put, List.setIfInBounds_toArray, List.set_cons_zero, List.set_cons_succ])
      refine wpAnyH_done (by kernel_rfl) ?_ _
      go_wp2_with fail
      go_meet
      exact ⟨rfl, by (show Ext _ _; repeat (first | with_reducible (refine Hid.out ?_; assumption) | with_reducible exact Ext.refl _ | with_reducible refine Ext.ext ?_ _ | with_reducible refine Ext.alloc ?_ _ | with_reducible refine Ext.drew ?_ | with_reducible refine Ext.setCell ?_ (by (try dsimp only); first | omega | (simp; done) | (simp; omega)) _))⟩
    refine AllReadyH.cons (o := ⟨_, _, _, _, _, _⟩) rfl (fun K hK => ?_) AllReadyH.nil
    go_simp
    have hOld := hHeld
    clear hHeld
    refine hK.out _ _ (by exact ⟨(show Ext U _ by (show Ext _ _; repeat (first | with_reducible (refine Hid.out ?_; assumption) | with_reducible exact Ext.refl _ | with_reducible refine Ext.ext ?_ _ | with_reducible refine Ext.alloc ?_ _ | with_reducible refine Ext.drew ?_ | with_reducible refine Ext.setCell ?_ (by (try dsimp only); first | omega | (simp; done) | (simp; omega)) _))).cell l0, (show Ext U _ by (show Ext _ _; repeat (first | with_reducible (refine Hid.out ?_; assumption) | with_reducible exact Ext.refl _ | with_reducible refine Ext.ext ?_ _ | with_reducible refine Ext.alloc ?_ _ | with_reducible refine Ext.drew ?_ | with_reducible refine Ext.setCell ?_ (by (try dsimp only); first | omega | (simp; done) | (simp; omega)) _))).cell l1, (show Ext U _ by (show Ext _ _; repeat (first | with_reducible (refine Hid.out ?_; assumption) | with_reducible exact Ext.refl _ | with_reducible refine Ext.ext ?_ _ | with_reducible refine Ext.alloc ?_ _ | with_reducible refine Ext.drew ?_ | with_reducible refine Ext.setCell ?_ (by (try dsimp only); first | omega | (simp; done) | (simp; omega)) _))).cell l2⟩) (fun hHeld => ?_)
    clear hOld hK K
    (try simp only [Act.put, List.setIfInBounds_toArray, List.set_cons_zero, List.set_cons_succ])
    refine take_only 3 (oi := ⟨_, _, _, _, _, _⟩) (by kernel_rfl) rfl (fun K hK => ?_)
    go_simp
    first
      | (go_at_call 25; refine (logical_any T C B 0 (by omega) (by omega) (L2.drop 1) _ HDo.out _ (HS.out.of (HEUw.out.trans (by (show Ext _ _; repeat (first | with_reducible (refine Hid.out ?_; assumption) | with_reducible exact Ext.refl _ | with_reducible refine Ext.ext ?_ _ | with_reducible refine Ext.alloc ?_ _ | refine Ext.drew ?_ | refine Ext.drewN ?_ _ | exact Ext.refl _))))) (HD1.out.of wdE_len (by (show Ext _ _; repeat (first | with_reducible (refine Hid.out ?_; assumption) | with_reducible exact Ext.refl _ | with_reducible refine Ext.ext ?_ _ | with_reducible refine Ext.alloc ?_ _ | refine Ext.drew ?_ | refine Ext.drewN ?_ _ | exact Ext.refl _))))).mono ?_; rintro y w' ⟨rfl, r8, rfl⟩; rw [HSh.out]; dsimp only)
    have hOld := hHeld
    clear hHeld
    refine hK.out _ _ (by exact ⟨(show Ext U _ by (show Ext _ _; repeat (first | with_reducible (refine Hid.out ?_; assumption) | with_reducible exact Ext.refl _ | with_reducible refine Ext.ext ?_ _ | with_reducible refine Ext.alloc ?_ _ | with_reducible refine Ext.drew ?_ | with_reducible refine Ext.setCell ?_ (by (try dsimp only); first | omega | (simp; done) | (simp; omega)) _))).cell l0, (show Ext U _ by (show Ext _ _; repeat (first | with_reducible (refine Hid.out ?_; assumption) | with_reducible exact Ext.refl _ | with_reducible refine Ext.ext ?_ _ | with_reducible refine Ext.alloc ?_ _ | with_reducible refine Ext.drew ?_ | with_reducible refine Ext.setCell ?_ (by (try dsimp only); first | omega | (simp; done) | (simp; omega)) _))).cell l1, (show Ext U _ by (show Ext _ _; repeat (first | with_reducible (refine Hid.out ?_; assumption) | with_reducible exact Ext.refl _ | with_reducible refine Ext.ext ?_ _ | with_reducible refine Ext.alloc ?_ _ | with_reducible refine Ext.drew ?_ | with_reducible refine Ext.setCell ?_ (by (try dsimp only); first | omega | (simp; done) | (simp; omega)) _))).cell l2⟩) (fun hHeld => ?_)
    clear hOld hK K
    (try simp only [Act.put, List.setIfInBounds_toArray, List.set_cons_zero, List.set_cons_succ])
    refine take_met 4 (oi := ⟨_, _, _, _, _, _⟩) (v := ?_) (by kernel_rfl) rfl (by rfl) (fun _ _ _ h => h) (by assumption) ?_ ?_
    rotate_left 1
    · intro w hSw
      try dsimp only at hSw
      go_simp
      try with_reducible rfl
    (try simp only [Act.put, List.setIfInBounds_toArray, List.set_cons_zero, List.set_cons_succ])
    refine take_met 5 (oi := ⟨_, _, _, _, _, _⟩) (v := ?_) (by kernel_rfl) rfl (by rfl) (fun _ _ _ h => h) (by assumption) ?_ ?_
    rotate_left 1
    · intro w hSw
      try dsimp only at hSw
      go_simp
      try with_reducible rfl
    (try simp only [Act.put, List.setIfInBounds_toArray, List.set_cons_zero, List.set_cons_succ])
    refine take_met 6 (oi := ⟨_, _, _, _, _, _⟩) (v := ?_) (by kernel_rfl) rfl (by rfl) (fun _ _ _ h => h) (by assumption) ?_ ?_
    rotate_left 1
    · intro w hSw
      try dsimp only at hSw
      go_simp
      try with_reducible rfl
    (try simp only [Act.put, List.setIfInBounds_toArray, List.set_cons_zero, List.set_cons_succ])
    refine take_only 8 (oi := ⟨_, _, _, _, _, _⟩) (by kernel_rfl) rfl (fun K hK => ?_)
    go_simp
    have hOld := hHeld
    clear hHeld
    refine hK.out _ _ (by exact ⟨(show Ext U _ by (show Ext _ _; repeat (first | with_reducible (refine Hid.out ?_; assumption) | with_reducible exact Ext.refl _ | with_reducible refine Ext.ext ?_ _ | with_reducible refine Ext.alloc ?_ _ | with_reducible refine Ext.drew ?_ | with_reducible refine Ext.setCell ?_ (by (try dsimp only); first | omega | (simp; done) | (simp; omega)) _))).cell l0, (show Ext U _ by (show Ext _ _; repeat (first | with_reducible (refine Hid.out ?_; assumption) | with_reducible exact Ext.refl _ | with_reducible refine Ext.ext ?_ _ | with_reducible refine Ext.alloc ?_ _ | with_reducible refine Ext.drew ?_ | with_reducible refine Ext.setCell ?_ (by (try dsimp only); first | omega | (simp; done) | (simp; omega)) _))).cell l1, (show Ext U _ by (show Ext _ _; repeat (first | with_reducible (refine Hid.out ?_; assumption) | with_reducible exact Ext.refl _ | with_reducible refine Ext.ext ?_ _ | with_reducible refine Ext.alloc ?_ _ | with_reducible refine Ext.drew ?_ | with_reducible refine Ext.setCell ?_ (by (try dsimp only); first | omega | (simp; done) | (simp; omega)) _))).cell l2⟩) (fun hHeld => ?_)
    clear hOld hK K
    (try simp only [Act.put, List.setIfInBounds_toArray, List.set_cons_zero, List.set_cons_succ])
    refine take_met 9 (oi := ⟨_, _, _, _, _, _⟩) (v := ?_) (by kernel_rfl) rfl (by rfl) (fun _ _ _ h => h) (by assumption) ?_ ?_
    rotate_left 1
    · intro w hSw
      try dsimp only at hSw
      go_simp
      try with_reducible rfl
    (try simp only [Act.put, List.setIfInBounds_toArray, List.set_cons_zero, List.set_cons_succ])
    refine wpAnyH_done (by kernel_rfl) ?_ _
    go_wp2_with fail
    go_meet
    exact ⟨rfl, by (show Ext _ _; repeat (first | with_reducible (refine Hid.out ?_; assumption) | with_reducible exact Ext.refl _ | with_reducible refine Ext.ext ?_ _ | with_reducible refine Ext.alloc ?_ _ | with_reducible refine Ext.drew ?_ | with_reducible refine Ext.setCell ?_ (by (try dsimp only); first | omega | (simp; done) | (simp; omega)) _))⟩
  case rest =>
  obtain ⟨rfl, hcut⟩ := hcut
  have HEc := hid hcut
  clear hcut
  go_wp2_with fail
  refine (dawake_any _ (HS.out.of (HEUw.out.trans (HEc.out.trans (by (show Ext _ _; repeat (first | with_reducible (refine Hid.out ?_; assumption) | with_reducible exact Ext.refl _ | with_reducible refine Ext.ext ?_ _ | with_reducible refine Ext.alloc ?_ _ | refine Ext.drew ?_ | refine Ext.drewN ?_ _ | exact Ext.refl _))))))).mono ?_
  rintro e w' ⟨rfl, r10, rfl⟩
  go_wp2_with fail
  go_ret
  exact ⟨rfl, HEUw.out.trans (HEc.out.trans (by (show Ext _ _; repeat (first | with_reducible (refine Hid.out ?_; assumption) | with_reducible exact Ext.refl _ | with_reducible refine Ext.ext ?_ _ | with_reducible refine Ext.alloc ?_ _ | refine Ext.drew ?_ | refine Ext.drewN ?_ _ | exact Ext.refl _))))⟩

end Go.Proofs.YtojcojghnhibmaaDoor
