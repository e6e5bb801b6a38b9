/- The walk of the statement DescDecides. -/
import Derived.Test.YtojcojghnhibmaaDoorAwkB
import Derived.Test.YtojcojghnhibmaaDoorPlanB
import Derived.Test.YtojcojghnhibmaaDoorSlD
import Derived.Test.YtojcojghnhibmaaDoorDecLaw
import Derived.Test.YtojcojghnhibmaaDoorDescH
import Derived.Test.YtojcojghnhibmaaDoorOwn
import Derived.Deep.DeepCutAuto
namespace Go.Proofs.YtojcojghnhibmaaDoor
set_option linter.unusedSimpArgs false
set_option linter.unusedVariables false
open Go.RowKit

set_option maxRecDepth 100000 in
set_option maxHeartbeats 4000000 in
theorem ddec_any (x y z : Int) (hx : 0 ≤ x ∧ x ≤ 255) (hy : 0 ≤ y ∧ y ≤ 255) (hz : 0 ≤ z ∧ z ≤ 255)
    (ua qa ta : Int) (va : Value) (ea : List En) (hua : -9223372036854775808 ≤ ua ∧ ua ≤ 9223372036854775807) (hqa : -9223372036854775808 ≤ qa ∧ qa ≤ 9223372036854775807)
    (pv : Value) (pl : List Pt) (w : World) (hs : Szs w) (hva : Es w va ea) (hoka : ∀ e ∈ ea, EnOk e) (hpv : Sl w 4 ptE pv pl) (hokp : ∀ a ∈ pl, PtOk a) :
    Calls Tryd.prog 6 #[.agg #[.int .u8 x, .int .u8 y, .int .u8 z], .agg #[.int .i64 ua, .int .i64 qa, .int .i64 ta, va], pv] w fun e w' => e = .returned (.bool true) ∧ ∃ r, w' = ext w r := by
  have HS := hid hs
  obtain ⟨ha1, ha2⟩ := hua
  have HX := hid hx
  have HY := hid hy
  have HZ := hid hz
  have HVA := hid hva
  have HOA := hid hoka
  have HPV := hid hpv
  have HOP := hid hokp
  obtain ⟨aa, ca, rfl, _, _⟩ := hva
  obtain ⟨ap, cp, rfl, _, _⟩ := hpv
  clear hs hx hy hz hoka hokp
  by_cases hga : (40 : Int) < (ea.length : Int)
  · have hg : decide ((40 : Int) < (ea.length : Int)) = true := decide_eq_true hga
    go_enter Tryd.func6, Tryd.ntmps6
    go_wp2_with fail
    refine (great_any aa ea.length ca _).mono ?_
    rintro e w' ⟨rfl, r1, rfl⟩
    rw [hg]
    go_wp2_with fail
    refine (dawake_any _ (HS.out.of (by (show Ext _ _; repeat (first | with_reducible (refine Hid.out ?_; assumption) | with_reducible exact Ext.refl _ | with_reducible refine Ext.ext ?_ _ | with_reducible refine Ext.alloc ?_ _ | refine Ext.drew ?_ | refine Ext.drewN ?_ _ | exact Ext.refl _))))).mono ?_
    rintro e w' ⟨rfl, r6, rfl⟩
    go_wp2_with fail
    go_ret
    exact ⟨rfl, by (show Ext _ _; repeat (first | with_reducible (refine Hid.out ?_; assumption) | with_reducible exact Ext.refl _ | with_reducible refine Ext.ext ?_ _ | with_reducible refine Ext.alloc ?_ _ | refine Ext.drew ?_ | refine Ext.drewN ?_ _ | exact Ext.refl _))⟩
  have hg1 : decide ((40 : Int) < (ea.length : Int)) = false := decide_eq_false hga
  by_cases hgb : (40 : Int) < (pl.length : Int)
  · go_enter Tryd.func6, Tryd.ntmps6
    go_wp2_with fail
    refine (great_any aa ea.length ca _).mono ?_
    rintro e w' ⟨rfl, r1, rfl⟩
    rw [hg1]
    go_wp2_with fail
    refine (dawake_any _ (HS.out.of (by (show Ext _ _; repeat (first | with_reducible (refine Hid.out ?_; assumption) | with_reducible exact Ext.refl _ | with_reducible refine Ext.ext ?_ _ | with_reducible refine Ext.alloc ?_ _ | refine Ext.drew ?_ | refine Ext.drewN ?_ _ | exact Ext.refl _))))).mono ?_
    rintro e w' ⟨rfl, r6, rfl⟩
    go_wp2_with fail
    go_ret
    exact ⟨rfl, by (show Ext _ _; repeat (first | with_reducible (refine Hid.out ?_; assumption) | with_reducible exact Ext.refl _ | with_reducible refine Ext.ext ?_ _ | with_reducible refine Ext.alloc ?_ _ | refine Ext.drew ?_ | refine Ext.drewN ?_ _ | exact Ext.refl _))⟩
  clear hga
  go_enter Tryd.func6, Tryd.ntmps6
  go_wp2_with fail
  refine (great_any aa ea.length ca _).mono ?_
  rintro e w' ⟨rfl, r1, rfl⟩
  rw [hg1]
  go_wp2_with fail
  refine (plan_any x y z HX.out HY.out HZ.out _ (HS.out.of (by (show Ext _ _; repeat (first | with_reducible (refine Hid.out ?_; assumption) | with_reducible exact Ext.refl _ | with_reducible refine Ext.ext ?_ _ | with_reducible refine Ext.alloc ?_ _ | refine Ext.drew ?_ | refine Ext.drewN ?_ _ | exact Ext.refl _))))).mono ?_
  rintro e w' ⟨T, C, B, sl, rm, sz, v, ⟨hT1, hT4⟩, ⟨hC1, hC4⟩, hB4, hsl, hrm, hsz, rfl, ⟨r3, rfl⟩, hsv⟩
  obtain ⟨hck, h7⟩ := plan_ok (T := T) (C := C) (B := B) (by omega) (by omega) (by omega)
  have hr : rightN T C B = true := by unfold rightN; rw [hck]; rfl
  have hszn : (sz : Int) = sizeN T C B := by unfold sizeN; rw [if_pos hr]; exact hsz
  have HPl := hid (fun who h0 h1 => place_law hr (by omega) hsl hrm who h0 h1)
  have HRdl := hid (fun (l : List Wd) (hl : l.length = sz) who h0 h1 => rread_law hr (by omega) hsl hrm hszn l hl who h0 h1)
  have HMay := hid (fun p => rmay_law hszn p)
  have hfl := from_le7 (right_lok hr).1
  have hslb : (sl : Int) ≤ 100000 := by omega
  have hrmb : (rm : Int) ≤ 100000 := by rw [hrm]; split <;> omega
  generalize hWP : ext _ r3 = WP at *
  have HEp := hid (show Ext w WP by rw [← hWP]; (show Ext _ _; repeat (first | with_reducible (refine Hid.out ?_; assumption) | with_reducible exact Ext.refl _ | with_reducible refine Ext.ext ?_ _ | with_reducible refine Ext.alloc ?_ _ | refine Ext.drew ?_ | refine Ext.drewN ?_ _ | exact Ext.refl _)))
  have HBaP := hid (show Blk WP (w.heap.size + 1) [.int .i64 ua, .int .i64 qa, .int .i64 ta, .slice aa ea.length ca] by rw [← hWP]; (show Blk _ _ _; repeat (first | with_reducible (refine Hid.out ?_; assumption) | with_reducible refine Blk.drew ?_ | with_reducible refine Blk.ext ?_ _ | (with_reducible refine Blk.new _ _ rfl ?_; first | with_reducible rfl | (simp; done)) | with_reducible refine Blk.alloc ?_ _ | with_reducible assumption | with_reducible apply Blk.setE | (with_reducible refine Blk.other' ?_ ?_; first | omega | (simp; omega)) | (show List.set _ _ _ = _; exact rfl) | (show _ < List.length _; simp; done))))
  have hnone : ∀ i, 4 ≤ i → WP.cell? ⟨w.heap.size + 1, i, none⟩ = none := by
    intro i hi
    rw [← hWP]
    simp [go_sem]
    omega
  have HPs := hid hsv
  obtain ⟨av, cv, rfl, _, hvc⟩ := hsv
  obtain ⟨bp, op, rfl, hbp, hcp⟩ := hvc (by intro h; have := congrArg List.length h; rw [mayL_len] at this; simp at this; omega)
  have hbna : bp ≠ w.heap.size + 1 := by
    intro h
    have h1 := hcp 7 _ (List.getElem?_eq_getElem (by rw [mayL_len]; omega)) 0 (by omega)
    rw [h, hnone _ (by omega)] at h1
    simp [boE] at h1
  clear hvc hcp hnone
  have hwp : w.heap.size + 2 ≤ WP.heap.size := by rw [← hWP]; simp; omega
  have HCk := hid hck
  have HSz := hid hszn
  have hs8 : (8 : Int) ≤ (sz : Int) := by omega
  have hs9 : (sz : Int) ≤ 2000 := by omega
  have HRt := hid hr
  clear hWP hsl hrm hsz hck h7 hfl hszn
  generalize hna : w.heap.size + 1 = na at *
  go_wp2_with fail
  refine (mem_any T C B hr pl _ HOP.out (by omega) _ (HS.out.of (HEp.out.trans (by (show Ext _ _; repeat (first | with_reducible (refine Hid.out ?_; assumption) | with_reducible exact Ext.refl _ | with_reducible refine Ext.ext ?_ _ | with_reducible refine Ext.alloc ?_ _ | refine Ext.drew ?_ | refine Ext.drewN ?_ _ | exact Ext.refl _))))) (HPV.out.of ptE_len (HEp.out.trans (by (show Ext _ _; repeat (first | with_reducible (refine Hid.out ?_; assumption) | with_reducible exact Ext.refl _ | with_reducible refine Ext.ext ?_ _ | with_reducible refine Ext.alloc ?_ _ | refine Ext.drew ?_ | refine Ext.drewN ?_ _ | exact Ext.refl _)))))).mono ?_
  rintro e w' ⟨v8, rfl, ⟨r4, rfl⟩, hv8⟩
  obtain ⟨L, hL⟩ : ∃ L, L = memTo (firstL T C B) pl pl.length := ⟨_, rfl⟩
  have hln : L.length = sz := by
    have h1 := firstL_len hr
    rw [hL, memTo_len]
    have := HSz.out
    omega
  rw [← hL] at hv8
  have HLok := hid (show ∀ a ∈ L, WdOk a by rw [hL]; exact memTo_ok (firstL_ok _ _ _) HOP.out _)
  obtain ⟨g, c8, rfl, hgl, hgs⟩ := Ws.open hv8 (by omega)
  rw [hln] at hv8 ⊢
  have hgl2 : WP.heap.size + 1 < g := by simp at hgl; omega
  have HLn := hid hln
  have HF := hid (show (L.length : Int) = sizeN T C B by rw [hln]; exact HSz.out)
  clear hL hln
  generalize hU : ext _ r4 = U at *
  have HEPU := hid (show Ext WP U by rw [← hU]; (show Ext _ _; repeat (first | with_reducible (refine Hid.out ?_; assumption) | with_reducible exact Ext.refl _ | with_reducible refine Ext.ext ?_ _ | with_reducible refine Ext.alloc ?_ _ | refine Ext.drew ?_ | refine Ext.drewN ?_ _ | exact Ext.refl _)))
  have HBl := hid (show Blk U WP.heap.size [.int .i64 T, .int .i64 C, .int .i64 B] by rw [← hU]; (show Blk _ _ _; repeat (first | with_reducible (refine Hid.out ?_; assumption) | with_reducible refine Blk.drew ?_ | with_reducible refine Blk.ext ?_ _ | (with_reducible refine Blk.new _ _ rfl ?_; first | with_reducible rfl | (simp; done)) | with_reducible refine Blk.alloc ?_ _ | with_reducible assumption | with_reducible apply Blk.setE | (with_reducible refine Blk.other' ?_ ?_; first | omega | (simp; omega)) | (show List.set _ _ _ = _; exact rfl) | (show _ < List.length _; simp; done))))
  have HBp := hid (show Blk U (WP.heap.size + 1) [.int .i64 T, .int .i64 B, .int .i64 sl, .int .i64 rm, .int .i64 104, .int .i64 32, .slice (some ⟨bp, op, none⟩) (mayL T C B sz).length cv, .int .i64 sz] by rw [← hU]; (show Blk _ _ _; repeat (first | with_reducible (refine Hid.out ?_; assumption) | with_reducible refine Blk.drew ?_ | with_reducible refine Blk.ext ?_ _ | (with_reducible refine Blk.new _ _ rfl ?_; first | with_reducible rfl | (simp; done)) | with_reducible refine Blk.alloc ?_ _ | with_reducible assumption | with_reducible apply Blk.setE | (with_reducible refine Blk.other' ?_ ?_; first | omega | (simp; omega)) | (show List.set _ _ _ = _; exact rfl) | (show _ < List.length _; simp; done))))
  have HL8 := hid (show Ws U (WP.heap.size + 1 + 1) _ L from Own.mono hv8 (show WP.heap.size + 1 + 1 ≤ _ by simp))
  have HE := hid (HEp.out.trans HEPU.out)
  have HBa := hid (HBaP.out.of HEPU.out)
  generalize hnp : WP.heap.size + 1 = np at *
  generalize hnl : WP.heap.size = nl at *
  clear hU hv8 hgl HBaP
  obtain ⟨a0, a1, a2, a3⟩ := HBa.out.four
  have a4 := HBa.out.1
  have a5 := HBa.out.2.1 2
  obtain ⟨l0, l1, l2⟩ := HBl.out.three
  have l4 := HBl.out.1
  go_wp2_with fail
  generalize hU2 : World.setCell _ _ _ = U2
  have HE2 := hid (show Ext w U2 by rw [← hU2]; exact HE.out.setCell (by dsimp only; omega) _)
  have HBa2 := hid (show Blk U2 na [.int .i64 ua, .int .i64 qa, .int .i64 0, .slice aa ea.length ca] by rw [← hU2]; (show Blk _ _ _; repeat (first | with_reducible (refine Hid.out ?_; assumption) | with_reducible apply Blk.drew | with_reducible apply Blk.ext | ((with_reducible refine Blk.new _ _ rfl ?_); first | with_reducible rfl | focus (simp; done)) | ((with_reducible apply Blk.newE); first | with_reducible rfl | focus (simp; done)) | with_reducible apply Blk.alloc | with_reducible assumption | with_reducible apply Blk.setE | ((with_reducible refine Blk.other' ?_ ?_); first | omega | (simp; omega)) | (show List.set _ _ _ = _; exact rfl) | focus (show _ < List.length _; simp; done))))
  have HBl2 := hid (show Blk U2 nl [.int .i64 T, .int .i64 C, .int .i64 B] by rw [← hU2]; (show Blk _ _ _; repeat (first | with_reducible (refine Hid.out ?_; assumption) | with_reducible apply Blk.drew | with_reducible apply Blk.ext | ((with_reducible refine Blk.new _ _ rfl ?_); first | with_reducible rfl | focus (simp; done)) | ((with_reducible apply Blk.newE); first | with_reducible rfl | focus (simp; done)) | with_reducible apply Blk.alloc | with_reducible assumption | with_reducible apply Blk.setE | ((with_reducible refine Blk.other' ?_ ?_); first | omega | (simp; omega)) | (show List.set _ _ _ = _; exact rfl) | focus (show _ < List.length _; simp; done))))
  have HBp2 := hid (show Blk U2 np [.int .i64 T, .int .i64 B, .int .i64 sl, .int .i64 rm, .int .i64 104, .int .i64 32, .slice (some ⟨bp, op, none⟩) (mayL T C B sz).length cv, .int .i64 sz] by rw [← hU2]; (show Blk _ _ _; repeat (first | with_reducible (refine Hid.out ?_; assumption) | with_reducible apply Blk.drew | with_reducible apply Blk.ext | ((with_reducible refine Blk.new _ _ rfl ?_); first | with_reducible rfl | focus (simp; done)) | ((with_reducible apply Blk.newE); first | with_reducible rfl | focus (simp; done)) | with_reducible apply Blk.alloc | with_reducible assumption | with_reducible apply Blk.setE | ((with_reducible refine Blk.other' ?_ ?_); first | omega | (simp; omega)) | (show List.set _ _ _ = _; exact rfl) | focus (show _ < List.length _; simp; done))))
  have HPs2 := hid (show Sl U2 1 boE (.slice (some ⟨bp, op, none⟩) (mayL T C B sz).length cv) (mayL T C B sz) by rw [← hU2]; exact (HPs.out.of boE_len HEPU.out).grn boE_len (Grn.refl.setCell 2 _) hbna)
  have HL2 := hid (show Ws U2 w.heap.size (.slice (some ⟨g, 0, none⟩) sz c8) L by rw [← hU2]; exact Own.mono (HL8.out.under (by omega) _) (by omega))
  have hgU2 : g < U2.heap.size := by rw [← hU2, World.size_setCell]; exact hgs
  clear hU2 a0 a1 a2 a3 a4 a5 l0 l1 l2 l4 HE HBa HBl HBp HPs HEPU HL8 hgs HEp
  by_cases hda : dcheckN T C B ua qa 0 ea = 0
  rotate_left
  · have hdb : (dcheckN T C B ua qa 0 ea == 0) = false := by simpa using hda
    clear hda
    refine (laid_n T C B ua qa 0 HCk.out ha1 ha2 ea _ HOA.out L sz w.heap.size g c8 HLn.out w _ HS.out HE2.out HVA.out HL2.out HF.out (by omega) (by omega) (by omega)).mono ?_
    rintro e V ⟨rfl, hG, _⟩
    rw [hdb]
    have HEV := hid (HE2.out.grn hG (by omega))
    clear hG
    go_wp2_with fail
    refine (dawake_any _ (HS.out.of (HEV.out.trans (by (show Ext _ _; repeat (first | with_reducible (refine Hid.out ?_; assumption) | with_reducible exact Ext.refl _ | with_reducible refine Ext.ext ?_ _ | with_reducible refine Ext.alloc ?_ _ | refine Ext.drew ?_ | refine Ext.drewN ?_ _ | exact Ext.refl _)))))).mono ?_
    rintro e w' ⟨rfl, r6, rfl⟩
    go_wp2_with fail
    go_ret
    exact ⟨rfl, HEV.out.trans (by (show Ext _ _; repeat (first | with_reducible (refine Hid.out ?_; assumption) | with_reducible exact Ext.refl _ | with_reducible refine Ext.ext ?_ _ | with_reducible refine Ext.alloc ?_ _ | refine Ext.drew ?_ | refine Ext.drewN ?_ _ | exact Ext.refl _)))⟩
  have hdb : (dcheckN T C B ua qa 0 ea == 0) = true := by simpa using hda
  have HD := hid hda
  clear hda
  refine (laid_n T C B ua qa 0 HCk.out ha1 ha2 ea _ HOA.out L sz w.heap.size g c8 HLn.out w _ HS.out HE2.out HVA.out HL2.out HF.out (by omega) (by omega) (by omega)).mono ?_
  rintro e V ⟨rfl, hG, hL1⟩
  rw [hdb]
  have HEV := hid (HE2.out.grn hG (by omega))
  have HBaV := hid (HBa2.out.grn hG (by omega))
  have HBlV := hid (HBl2.out.grn hG (by omega))
  have HBpV := hid (HBp2.out.grn hG (by omega))
  have HPsV := hid (HPs2.out.grn boE_len hG (by omega))
  have hgV : g < V.heap.size := Nat.lt_of_lt_of_le hgU2 hG.size
  have HLn1 := hid (show (laidL T C B ua qa 0 ea L).length = sz by rw [laidL_len]; exact HLn.out)
  have HLo1 := hid (laidL_ok (t := T) (c := C) (b := B) (who := ua) (seq := qa) (st := 0) HLok.out HOA.out)
  obtain ⟨L1, hL9⟩ : ∃ L1, L1 = laidL T C B ua qa 0 ea L := ⟨_, rfl⟩
  rw [← hL9] at hL1 HLo1 HLn1
  have HL1 := hid hL1
  have HL1d := hid hL9
  obtain ⟨rr, hrr⟩ : ∃ rr, rr = (refN ua qa).1 := ⟨_, rfl⟩
  have HRr := hid hrr
  obtain ⟨_, hpm, hqb, _, _, _, _, _⟩ := dcheck_ok HD.out
  have hroom := place_room hpm
  have hbd := place_bd T C B ua
  obtain ⟨⟨pa, pm⟩, hp⟩ : ∃ p, p = placeN T C B ua := ⟨_, rfl⟩
  have HPe := hid hp
  rw [← hp] at hroom hbd hpm
  dsimp only at hroom hbd hpm
  rw [← HSz.out] at hroom
  obtain ⟨p, rfl⟩ := Int.eq_ofNat_of_zero_le hroom.1
  have t0 : ¬ (p : Int) < 0 := by omega
  have t1 : (p : Int) < (sz : Int) := by omega
  have hps : p < sz := by omega
  obtain ⟨hq1, hq2⟩ := hqb
  clear hL1 hG hL9 HL2 HE2 HBa2 HBl2 HBp2 HPs2 hgU2 hrr hroom hbd hpm hp
  obtain ⟨a0, a1, a2, a3⟩ := HBaV.out.four
  have a4 := HBaV.out.1
  obtain ⟨l0, l1, l2⟩ := HBlV.out.three
  have l4 := HBlV.out.1
  obtain ⟨p0, p1, p2, p3, p4, p5, p6, p7⟩ := HBpV.out.eight
  have p8 := HBpV.out.1
  go_wp2_with fail
  refine (place_any T C B ua ha1 ha2 _ (HS.out.of (HEV.out.trans (by (show Ext _ _; repeat (first | with_reducible (refine Hid.out ?_; assumption) | with_reducible exact Ext.refl _ | with_reducible refine Ext.ext ?_ _ | with_reducible refine Ext.alloc ?_ _ | refine Ext.drew ?_ | refine Ext.drewN ?_ _ | exact Ext.refl _)))))).mono ?_
  rintro e w' ⟨rfl, r5, rfl⟩
  rw [← HPe.out]
  dsimp only
  go_wp2_with fail
  refine (ref_any ua qa _).mono ?_
  rintro e w' ⟨rfl, r6, rfl⟩
  rw [← HRr.out]
  go_wp2_with fail
  generalize hZ : ext _ r6 = Z
  have HEVZ := hid (show Ext V Z by rw [← hZ]; (show Ext _ _; repeat (first | with_reducible (refine Hid.out ?_; assumption) | with_reducible exact Ext.refl _ | with_reducible refine Ext.ext ?_ _ | with_reducible refine Ext.alloc ?_ _ | refine Ext.drew ?_ | refine Ext.drewN ?_ _ | exact Ext.refl _)))
  have HEZ := hid (HEV.out.trans HEVZ.out)
  have HBaZ := hid (HBaV.out.of HEVZ.out)
  have HBlZ := hid (HBlV.out.of HEVZ.out)
  have HBpZ := hid (HBpV.out.of HEVZ.out)
  have HPsZ := hid (HPsV.out.of boE_len HEVZ.out)
  have HSlZ := hid (show Sl Z 3 wdE (.slice (some ⟨g, 0, none⟩) sz c8) L1 from (Sl.of_own wdE_len HL1.out).of wdE_len HEVZ.out)
  have hgZ : g < Z.heap.size := Nat.lt_of_lt_of_le hgV HEVZ.out.size
  clear hZ HEV HBaV HBlV HBpV HPsV HL1 hgV HEVZ a0 a1 a2 a3 a4 l0 l1 l2 l4 p0 p1 p2 p3 p4 p5 p6 p7 p8
  go_loopw [15] (fun i wr => ∃ s : Int, (1 ≤ s ∧ s ≤ 4) ∧ i = .int .i64 s ∧ Hid (Ext Z wr)) (fun i _ => 4 - (intOf i).toNat)
  case atStart => exact ⟨1, by omega, rfl, hid (Ext.refl _)⟩
  case round =>
  obtain ⟨s, ⟨hs1, hs4⟩, rfl, HX⟩ := hrel
  have HEx := hid (HEZ.out.trans HX.out)
  have HBax := hid (HBaZ.out.of HX.out)
  obtain ⟨a0, a1, a2, a3⟩ := HBax.out.four
  have a4 := HBax.out.1
  by_cases hs3 : s ≤ 3
  rotate_left
  · go_wp2_with fail
    refine (dawake_any _ (HS.out.of (HEx.out.trans (by (show Ext _ _; repeat (first | with_reducible (refine Hid.out ?_; assumption) | with_reducible exact Ext.refl _ | with_reducible refine Ext.ext ?_ _ | with_reducible refine Ext.alloc ?_ _ | refine Ext.drew ?_ | refine Ext.drewN ?_ _ | exact Ext.refl _)))))).mono ?_
    rintro e w' ⟨rfl, r7, rfl⟩
    go_wp2_with fail
    go_ret
    exact ⟨rfl, HEx.out.trans (by (show Ext _ _; repeat (first | with_reducible (refine Hid.out ?_; assumption) | with_reducible exact Ext.refl _ | with_reducible refine Ext.ext ?_ _ | with_reducible refine Ext.alloc ?_ _ | refine Ext.drew ?_ | refine Ext.drewN ?_ _ | exact Ext.refl _)))⟩
  have HSlx := hid (HSlZ.out.of wdE_len HX.out)
  have hqs : (0 : Int) ≤ qa := by omega
  go_wp2_with (at_builtin; refine ws_append_b rfl _ _ rfl wr (by (show Ext _ _; repeat (first | with_reducible (refine Hid.out ?_; assumption) | with_reducible exact Ext.refl _ | with_reducible refine Ext.ext ?_ _ | with_reducible refine Ext.alloc ?_ _ | refine Ext.drew ?_ | refine Ext.drewN ?_ _ | exact Ext.refl _))) (Nat.le_refl _) (by (first | exact Nat.le_refl _ | (simp; done) | (simp; omega))) rfl (Own.made #[] [] 0 rfl (Nat.le_refl _) (by decide) rfl rfl) ⟨g, 0, none⟩ sz c8 rfl L1 HLn1.out (Sl.flat wdE_len (by omega) (HSlx.out.of wdE_len (by (show Ext _ _; repeat (first | with_reducible (refine Hid.out ?_; assumption) | with_reducible exact Ext.refl _ | with_reducible refine Ext.ext ?_ _ | with_reducible refine Ext.alloc ?_ _ | refine Ext.drew ?_ | refine Ext.drewN ?_ _ | exact Ext.refl _))))) (by simp; omega) ?_; rintro v9 w9 hv9 hX9 hB9; clear hB9; rw [List.nil_append] at hv9; obtain ⟨gx, cx, rfl, hgx1, hgx2⟩ := Ws.open hv9 (by rw [HLn1.out]; omega); rw [HLn1.out] at hv9 ⊢; have HV9 := hid hv9; have HX9 := hid hX9; have b1 := hX9.cell a1; clear hv9 hX9)
  refine (status_any s qa hqs (by omega) _).mono ?_
  rintro e w' ⟨rfl, r7, rfl⟩
  obtain ⟨⟨y1, y2, y3⟩, hy⟩ : ∃ y, L1[p]? = some y := ⟨_, List.getElem?_eq_getElem (by rw [HLn1.out]; exact hps)⟩
  obtain ⟨m0, m1, m2⟩ := Ws.cells HV9.out hy
  have f0 := Ws.free HV9.out (p * 3)
  have f1 := Ws.free HV9.out (p * 3 + 1)
  have f2 := Ws.free HV9.out (p * 3 + 2)
  go_wp2_with fail
  generalize hU : World.setCell _ _ _ = U
  have HXL := hid (show Ws U wr.heap.size (.slice (some ⟨gx, 0, none⟩) sz cx) (L1.set p (s, qa, 0)) by rw [← hU]; exact Ws.put (HV9.out.of (by (show Ext _ _; repeat (first | with_reducible (refine Hid.out ?_; assumption) | with_reducible exact Ext.refl _ | with_reducible refine Ext.ext ?_ _ | with_reducible refine Ext.alloc ?_ _ | refine Ext.drew ?_ | refine Ext.drewN ?_ _ | exact Ext.refl _)))) (by rw [HLn1.out]; exact hps) s qa 0)
  have HEU := hid (show Ext wr U by rw [← hU]; exact (((HX9.out.ext r7).setCell (by dsimp only; omega) _).setCell (by dsimp only; omega) _).setCell (by dsimp only; omega) _)
  have HDs := hid (dcheck_st HD.out (s := s) (by omega))
  have HXe := hid (show L1.set p (s, qa, 0) = laidL T C B ua qa s ea L by
    have := laid_status HD.out (s := s) (by omega) HF.out
    rw [← HPe.out] at this
    dsimp only at this
    rw [Int.toNat_natCast] at this
    rw [HL1d.out]; exact this)
  obtain ⟨X1, hX1⟩ : ∃ X1, X1 = laidL T C B ua qa s ea L := ⟨_, rfl⟩
  rw [HXe.out, ← hX1] at HXL
  have HX1d := hid hX1
  have HXo1 := hid (show ∀ a ∈ X1, WdOk a by rw [hX1]; exact laidL_ok HLok.out HOA.out)
  have HXn1 := hid (show X1.length = sz by rw [hX1, laidL_len]; exact HLn.out)
  have HXs := hid (show Sl U 3 wdE (.slice (some ⟨gx, 0, none⟩) sz cx) X1 from Sl.of_own wdE_len HXL.out)
  have HEUw := hid (HEx.out.trans HEU.out)
  have HWU := hid (HX.out.trans HEU.out)
  have HSlU := hid (HSlx.out.of wdE_len HEU.out)
  have HBaU := hid (HBax.out.of HEU.out)
  have HBlU := hid (HBlZ.out.of HWU.out)
  have HBpU := hid (HBpZ.out.of HWU.out)
  have HPsU := hid (HPsZ.out.of boE_len HWU.out)
  have hgU : g < U.heap.size := Nat.lt_of_lt_of_le hgZ HWU.out.size
  clear hU hX1 HXL HXe hy m0 m1 m2 f0 f1 f2 b1 HV9 HX9 a0 a1 a2 a3 a4 hgx1 hgx2
  go_loopw [17] (fun i wr => ∃ j : Nat, j ≤ sz ∧ i = .int .i64 j ∧ Hid (Ext U wr)) (fun i _ => sz - (intOf i).toNat)
  case atStart => exact ⟨0, by omega, rfl, hid (Ext.refl _)⟩
  case round =>
  obtain ⟨j, hj, rfl, HY⟩ := hrel
  obtain ⟨l0, l1, l2⟩ := (HBlU.out.of HY.out).three
  have l4 := (HBlU.out.of HY.out).1
  obtain ⟨p0, p1, p2, p3, p4, p5, p6, p7⟩ := (HBpU.out.of HY.out).eight
  have p8 := (HBpU.out.of HY.out).1
  have HEy := hid (HEUw.out.trans HY.out)
  by_cases hjl : j < sz
  rotate_left
  · have hd : decide (j < sz) = false := decide_eq_false hjl
    obtain rfl : j = sz := by omega
    go_wp2_with fail
    go_roundw
    case rel => exact ⟨s + 1, by omega, by go_num, hid (HWU.out.trans (HY.out.trans (by (show Ext _ _; repeat (first | with_reducible (refine Hid.out ?_; assumption) | with_reducible exact Ext.refl _ | with_reducible refine Ext.ext ?_ _ | with_reducible refine Ext.alloc ?_ _ | refine Ext.drew ?_ | refine Ext.drewN ?_ _ | exact Ext.refl _)))))⟩
    case measure => simp [intOf]; omega
  have hd : decide (j < sz) = true := decide_eq_true hjl
  have hjj : (j : Int) < (sz : Int) := by omega
  cases hm : mayN T C B j
  · have HM := hid hm
    clear hm
    go_wp2_with fail
    refine (rmay_any T B sl rm 104 32 sz _ _ j _ (HPsU.out.of boE_len (HY.out.trans (by (show Ext _ _; repeat (first | with_reducible (refine Hid.out ?_; assumption) | with_reducible exact Ext.refl _ | with_reducible refine Ext.ext ?_ _ | with_reducible refine Ext.alloc ?_ _ | refine Ext.drew ?_ | refine Ext.drewN ?_ _ | exact Ext.refl _)))))).mono ?_
    rintro e w' ⟨rfl, r8, rfl⟩
    rw [HMay.out, HM.out]
    go_wp2_with fail
    go_roundw
    case rel => exact ⟨j + 1, by omega, by go_num, hid (HY.out.trans (by (show Ext _ _; repeat (first | with_reducible (refine Hid.out ?_; assumption) | with_reducible exact Ext.refl _ | with_reducible refine Ext.ext ?_ _ | with_reducible refine Ext.alloc ?_ _ | refine Ext.drew ?_ | refine Ext.drewN ?_ _ | exact Ext.refl _))))⟩
    case measure => simp [intOf]; omega
  have HM := hid hm
  obtain ⟨⟨x1, x2, x3⟩, hx⟩ : ∃ x, L1[j]? = some x := ⟨_, List.getElem?_eq_getElem (by rw [HLn1.out]; exact hjl)⟩
  have HXj := hid hx
  obtain ⟨hdl1, hdl2, hdl3⟩ := dec_law ha1 ha2 HD.out (s := s) (by omega) HF.out HLok.out hm (by rw [← HL1d.out]; exact hx)
  dsimp only at hdl1 hdl3
  rw [← HL1d.out] at hdl1 hdl2 hdl3
  rw [← HX1d.out, ← HRr.out] at hdl1
  rw [← HRr.out] at hdl3
  obtain ⟨⟨c1, c2, c3⟩, hc⟩ : ∃ q, q = (logicN T C B L1 j).1 := ⟨_, rfl⟩
  rw [← hc] at hdl1 hdl3
  have HLa := hid (show logicN T C B L1 j = ((c1, c2, c3), 0) from Prod.ext hc.symm hdl2)
  obtain ⟨cc, hcc⟩ : ∃ cc, cc = (decide (x3 = rr) && decide (s = 1)) := ⟨_, rfl⟩
  obtain ⟨⟨d1, d2, d3⟩, hdd⟩ : ∃ q, q = (logicN T C B X1 j).1 := ⟨_, rfl⟩
  have HLb := hid (show logicN T C B X1 j = ((d1, d2, d3), 0) by rw [hdl1] at hdd ⊢; exact Prod.ext hdd.symm rfl)
  have HWn := hid (show wantTo ea j cc x2 (c1, c2, c3) ea.length = (d1, d2, d3) by
    rw [hdd, hdl1, want_law ea none (check_inc HD.out), hcc]
    dsimp only
    by_cases h : x3 = rr ∧ s = 1
    · have hb : (decide (x3 = rr) && decide (s = 1)) = true := by rw [decide_eq_true h.1, decide_eq_true h.2]; rfl
      rw [hb, if_pos rfl, if_pos h]
      have := hdl3 h.1
      rw [this]
      cases findW (j : Int) ea <;> rfl
    · have hb : (decide (x3 = rr) && decide (s = 1)) = false := by
        rw [← Bool.decide_and]; exact decide_eq_false h
      rw [hb, if_neg h, if_neg (by simp)])
  have HCc := hid hcc
  clear hm hx hdl1 hdl2 hdl3 hc hdd hcc
  go_wp2_with fail
  refine (rmay_any T B sl rm 104 32 sz _ _ j _ (HPsU.out.of boE_len (HY.out.trans (by (show Ext _ _; repeat (first | with_reducible (refine Hid.out ?_; assumption) | with_reducible exact Ext.refl _ | with_reducible refine Ext.ext ?_ _ | with_reducible refine Ext.alloc ?_ _ | refine Ext.drew ?_ | refine Ext.drewN ?_ _ | exact Ext.refl _)))))).mono ?_
  rintro e w' ⟨rfl, r8, rfl⟩
  rw [HMay.out, HM.out]
  go_wp2_with fail
  refine (logical_any T C B j (by omega) (by omega) L1 _ HLo1.out _ (HS.out.of (HEy.out.trans (by (show Ext _ _; repeat (first | with_reducible (refine Hid.out ?_; assumption) | with_reducible exact Ext.refl _ | with_reducible refine Ext.ext ?_ _ | with_reducible refine Ext.alloc ?_ _ | refine Ext.drew ?_ | refine Ext.drewN ?_ _ | exact Ext.refl _))))) (HSlU.out.of wdE_len (HY.out.trans (by (show Ext _ _; repeat (first | with_reducible (refine Hid.out ?_; assumption) | with_reducible exact Ext.refl _ | with_reducible refine Ext.ext ?_ _ | with_reducible refine Ext.alloc ?_ _ | refine Ext.drew ?_ | refine Ext.drewN ?_ _ | exact Ext.refl _)))))).mono ?_
  rintro y w' ⟨rfl, r9, rfl⟩
  rw [HLa.out]
  dsimp only
  go_wp2_with fail
  refine (logical_any T C B j (by omega) (by omega) X1 _ HXo1.out _ (HS.out.of (HEy.out.trans (by (show Ext _ _; repeat (first | with_reducible (refine Hid.out ?_; assumption) | with_reducible exact Ext.refl _ | with_reducible refine Ext.ext ?_ _ | with_reducible refine Ext.alloc ?_ _ | refine Ext.drew ?_ | refine Ext.drewN ?_ _ | exact Ext.refl _))))) (HXs.out.of wdE_len (HY.out.trans (by (show Ext _ _; repeat (first | with_reducible (refine Hid.out ?_; assumption) | with_reducible exact Ext.refl _ | with_reducible refine Ext.ext ?_ _ | with_reducible refine Ext.alloc ?_ _ | refine Ext.drew ?_ | refine Ext.drewN ?_ _ | exact Ext.refl _)))))).mono ?_
  rintro y w' ⟨rfl, r10, rfl⟩
  rw [HLb.out]
  dsimp only
  go_wp2_with fail
  generalize hK : World.alloc _ _ = K3
  have HEK := hid (show Ext wr K3 by rw [← hK]; (show Ext _ _; repeat (first | with_reducible (refine Hid.out ?_; assumption) | with_reducible exact Ext.refl _ | with_reducible refine Ext.ext ?_ _ | with_reducible refine Ext.alloc ?_ _ | refine Ext.drew ?_ | refine Ext.drewN ?_ _ | exact Ext.refl _)))
  have HBb := hid (show Blk K3 (wr.heap.size + r8.new.size + r9.new.size + 1 + r10.new.size) [.int .i64 d1, .int .u32 d2, .int .u32 d3] by rw [← hK]; (show Blk _ _ _; repeat (first | with_reducible (refine Hid.out ?_; assumption) | with_reducible refine Blk.drew ?_ | with_reducible refine Blk.ext ?_ _ | (with_reducible refine Blk.new _ _ rfl ?_; first | with_reducible rfl | (simp; done)) | with_reducible refine Blk.alloc ?_ _ | with_reducible assumption | with_reducible apply Blk.setE | (with_reducible refine Blk.other' ?_ ?_; first | omega | (simp; omega)) | (show List.set _ _ _ = _; exact rfl) | (show _ < List.length _; simp; done))))
  have HBw := hid (show Blk K3 (wr.heap.size + r8.new.size + r9.new.size + 1 + r10.new.size + 1) [.int .i64 c1, .int .u32 c2, .int .u32 c3] by rw [← hK]; (show Blk _ _ _; repeat (first | with_reducible (refine Hid.out ?_; assumption) | with_reducible refine Blk.drew ?_ | with_reducible refine Blk.ext ?_ _ | (with_reducible refine Blk.new _ _ rfl ?_; first | with_reducible rfl | (simp; done)) | with_reducible refine Blk.alloc ?_ _ | with_reducible assumption | with_reducible apply Blk.setE | (with_reducible refine Blk.other' ?_ ?_; first | omega | (simp; omega)) | (show List.set _ _ _ = _; exact rfl) | (show _ < List.length _; simp; done))))
  generalize hnw : wr.heap.size + r8.new.size + r9.new.size + 1 + r10.new.size + 1 = nw at *
  generalize hnb : wr.heap.size + r8.new.size + r9.new.size + 1 + r10.new.size = nb at *
  have hnwy : wr.heap.size < nw := by omega
  have hUwr := HY.out.size
  have HEKw := hid (HEy.out.trans HEK.out)
  have HYK := hid (HY.out.trans HEK.out)
  have HBaK := hid (HBaU.out.of HYK.out)
  have HSlK := hid (HSlU.out.of wdE_len HYK.out)
  have hgK : g < K3.heap.size := Nat.lt_of_lt_of_le hgU HYK.out.size
  have hgnw : g ≠ nw := by omega
  have hnaw : na ≠ nw := by have := HBaU.out.1; omega
  clear hK l0 l1 l2 l4 p0 p1 p2 p3 p4 p5 p6 p7 p8
  go_loopw [23] (fun i wk => ∃ k : Nat, k ≤ ea.length ∧ i = .int .i64 k ∧ ∃ e1 e2 e3, Hid (wantTo ea j cc x2 (c1, c2, c3) k = (e1, e2, e3)) ∧ Hid (Blk wk nw [.int .i64 e1, .int .u32 e2, .int .u32 e3]) ∧ Hid (Grn nw K3 wk)) (fun i _ => ea.length - (intOf i).toNat)
  case atStart => exact ⟨0, by omega, rfl, c1, c2, c3, hid rfl, HBw, hid Grn.refl⟩
  case round =>
  clear HBw
  obtain ⟨k, hk, rfl, e1, e2, e3, HWk, HBw, HG⟩ := hrel
  have HBak := hid (HBaK.out.grn HG.out hnaw)
  obtain ⟨a0, a1, a2, a3⟩ := HBak.out.four
  have a4 := HBak.out.1
  obtain ⟨w0, w1, w2⟩ := HBw.out.three
  have w3 := HBw.out.1
  by_cases hkl : k < ea.length
  rotate_left
  · have hd2 : decide (k < ea.length) = false := decide_eq_false hkl
    obtain rfl : k = ea.length := by omega
    have he := HWk.out.symm.trans HWn.out
    simp only [Prod.mk.injEq] at he
    obtain ⟨rfl, rfl, rfl⟩ := he
    obtain ⟨b0, b1, b2⟩ := (HBb.out.grn HG.out (by omega)).three
    have b3 := (HBb.out.grn HG.out (by omega)).1
    have hn1 := neq_word e1 e2 e3 e1 e2 e3
    rw [wdB_self] at hn1
    have hga := eq_guard_word
    have HYw := hid (HYK.out.grn HG.out (by omega))
    clear HWk HWn
    go_wp2_with fail
    go_roundw
    case rel => exact ⟨j + 1, by omega, by go_num, hid (HYw.out.trans (by (show Ext _ _; repeat (first | with_reducible (refine Hid.out ?_; assumption) | with_reducible exact Ext.refl _ | with_reducible refine Ext.ext ?_ _ | with_reducible refine Ext.alloc ?_ _ | refine Ext.drew ?_ | refine Ext.drewN ?_ _ | exact Ext.refl _))))⟩
    case measure => simp [intOf]; omega
  have hd2 : decide (k < ea.length) = true := decide_eq_true hkl
  have hkk : (k : Int) < (ea.length : Int) := by omega
  have hx := List.getElem?_eq_getElem hkl
  generalize ea[k] = x at hx
  have HEkw := hid (HEKw.out.grn HG.out (by have := HEKw.out.size; omega))
  obtain ⟨_, be, oe, hab, hbl, hcs⟩ := Sl.at HVA.out hx
  subst hab
  have HA := hid (wantTo_at (i := (j : Int)) (c := cc) (y := x2) (a := (c1, c2, c3)) hx)
  obtain ⟨loc, val, ver, ref, new, wr1⟩ := x
  have q0 := HEkw.out.cell (hcs 0 (by omega))
  have q1 := HEkw.out.cell (hcs 1 (by omega))
  have q2 := HEkw.out.cell (hcs 2 (by omega))
  have q3 := HEkw.out.cell (hcs 3 (by omega))
  have q4 := HEkw.out.cell (hcs 4 (by omega))
  have q5 := HEkw.out.cell (hcs 5 (by omega))
  simp [enE] at q0 q1 q2 q3 q4 q5
  obtain ⟨geq, b', o', hab, gbl, hcx⟩ := Sl.at HSlK.out HXj.out
  cases hab
  clear geq gbl
  have v0 := HG.out.cell hgnw (hcx 0 (by omega))
  have v1 := HG.out.cell hgnw (hcx 1 (by omega))
  have v2 := HG.out.cell hgnw (hcx 2 (by omega))
  simp [wdE] at v0 v1 v2
  have hgk : g < wr.heap.size := Nat.lt_of_lt_of_le hgK HG.out.size
  clear hcs hx hcx
  by_cases hall : (loc = (j : Int) ∧ wr1 = true) ∧ x3 = rr ∧ s = 1
  rotate_left
  · have HN := hid (show wantTo ea j cc x2 (c1, c2, c3) (k + 1) = (e1, e2, e3) by
      rw [HA.out, if_neg, HWk.out]
      rw [HCc.out]
      intro h
      simp only [Bool.and_eq_true, decide_eq_true_eq] at h
      exact hall ⟨h.1, h.2⟩)
    have hcs : (loc == (j : Int)) = false ∨ ((loc == (j : Int)) = true ∧ wr1 = false) ∨ ((loc == (j : Int)) = true ∧ wr1 = true ∧ (x3 == rr) = false) ∨ ((loc == (j : Int)) = true ∧ wr1 = true ∧ (x3 == rr) = true ∧ (s == 1) = false) := by
      by_cases h1 : loc = (j : Int)
      · cases h2 : wr1
        · exact .inr (.inl ⟨by simpa using h1, rfl⟩)
        · by_cases h3 : x3 = rr
          · exact .inr (.inr (.inr ⟨by simpa using h1, rfl, by simpa using h3, by simp; intro h4; exact hall ⟨⟨h1, h2⟩, h3, h4⟩⟩))
          · exact .inr (.inr (.inl ⟨by simpa using h1, rfl, by simpa using h3⟩))
      · exact .inl (by simpa using h1)
    clear hall HA HWk
    rcases hcs with g1 | ⟨g1, rfl⟩ | ⟨g1, rfl, g2⟩ | ⟨g1, rfl, g2, g3⟩
    all_goals
      go_wp2_with fail
      go_roundw
      case rel => exact ⟨k + 1, by omega, by go_num, e1, e2, e3, HN, hid (HBw.out.alloc _), hid (HG.out.alloc _)⟩
      case measure => simp [intOf]; omega
  · obtain ⟨⟨h1, rfl⟩, h2, h3⟩ := hall
    have HN := hid (show wantTo ea j cc x2 (c1, c2, c3) (k + 1) = (new, (x2 + 1) % 4294967296, 0) by
      rw [HA.out, if_pos]
      rw [HCc.out, decide_eq_true h1, decide_eq_true h2, decide_eq_true h3]; rfl)
    have g1 : (loc == (j : Int)) = true := by simpa using h1
    have g2 : (x3 == rr) = true := by simpa using h2
    have g3 : (s == 1) = true := by simpa using h3
    clear h1 h2 h3 HA HWk
    go_upto_region 31 with fail
    generalize hU5 : World.alloc _ _ = U5
    have HE5 := hid (show Ext wr U5 by rw [← hU5]; (show Ext _ _; repeat (first | with_reducible (refine Hid.out ?_; assumption) | with_reducible exact Ext.refl _ | with_reducible refine Ext.ext ?_ _ | with_reducible refine Ext.alloc ?_ _ | refine Ext.drew ?_ | refine Ext.drewN ?_ _ | exact Ext.refl _)))
    have HBe := hid (show Blk U5 wr.heap.size [.int .i64 loc, .int .i64 val, .int .u32 ver, .int .u32 ref, .int .i64 new, .bool true] by rw [← hU5]; (show Blk _ _ _; repeat (first | with_reducible (refine Hid.out ?_; assumption) | with_reducible refine Blk.drew ?_ | with_reducible refine Blk.ext ?_ _ | (with_reducible refine Blk.new _ _ rfl ?_; first | with_reducible rfl | (simp; done)) | with_reducible refine Blk.alloc ?_ _ | with_reducible assumption | with_reducible apply Blk.setE | (with_reducible refine Blk.other' ?_ ?_; first | omega | (simp; omega)) | (show List.set _ _ _ = _; exact rfl) | (show _ < List.length _; simp; done))))
    have HB5 := hid (HBw.out.of HE5.out)
    have HG5 := hid (show Grn nw K3 U5 by rw [← hU5]; exact HG.out.alloc _)
    have v15 := HE5.out.cell v1
    have e15 := HBe.out.2.2 4 _ rfl
    have n0 := HB5.out.2.1 0
    have n1 := HB5.out.2.1 1
    have n2 := HB5.out.2.1 2
    obtain ⟨z0, z1, z2⟩ := HB5.out.three
    have hg5 : g < U5.heap.size := Nat.lt_of_lt_of_le hgk HE5.out.size
    have hn5 := HB5.out.1
    have hnn : nw < wr.heap.size := w3
    generalize hwe : wr.heap.size = ne at *
    have hne5 := HBe.out.1
    clear hU5 w0 w1 w2 w3 v0 v1 v2 q0 q1 q2 q3 q4 q5 a0 a1 a2 a3 a4
    refine wp_region_held_drew (S := fun w' => w'.cell? ⟨ne, 4, none⟩ = some (.int .i64 new) ∧ w'.cell? ⟨g, j * 3 + 1, none⟩ = some (.int .u32 x2)) (by kernel_rfl) (by exact ⟨(show Grn nw U5 _ from by first | exact Grn.refl.drew | exact ((Grn.refl.drew.setCell _ _).setCell _ _).setCell _ _).cell (by omega) e15, (show Grn nw U5 _ from by first | exact Grn.refl.drew | exact ((Grn.refl.drew.setCell _ _).setCell _ _).setCell _ _).cell (by omega) v15⟩) (fun hHeld => ?_)
    refine take_met 0 (oi := ⟨_, _, _, _, _, _⟩) (v := ?_) (by kernel_rfl) rfl (by rfl) (fun _ _ _ h => h) (by assumption) ?_ ?_
    rotate_left 1
    · intro w hSw
      try dsimp only at hSw
      go_simp
      try with_reducible rfl
    (try simp only [Act.put, List.setIfInBounds_toArray, List.set_cons_zero, List.set_cons_succ])
    refine take_met 1 (oi := ⟨_, _, _, _, _, _⟩) (v := ?_) (by kernel_rfl) rfl (by rfl) (fun _ _ _ h => h) (by assumption) ?_ ?_
    rotate_left 1
    · intro w hSw
      try dsimp only at hSw
      go_simp
      try with_reducible rfl
    (try simp only [Act.put, List.setIfInBounds_toArray, List.set_cons_zero, List.set_cons_succ])
    refine take_met 2 (oi := ⟨_, _, _, _, _, _⟩) (v := ?_) (by kernel_rfl) rfl (by rfl) (fun _ _ _ h => h) (by assumption) ?_ ?_
    rotate_left 1
    · intro w hSw
      try dsimp only at hSw
      go_simp
      try with_reducible rfl
    (try simp only [Act.put, List.setIfInBounds_toArray, List.set_cons_zero, List.set_cons_succ])
    refine take_met 3 (oi := ⟨_, _, _, _, _, _⟩) (v := ?_) (by kernel_rfl) rfl (by rfl) (fun _ _ _ h => h) (by assumption) ?_ ?_
    rotate_left 1
    · intro w hSw
      try dsimp only at hSw
      go_simp
      try with_reducible rfl
    (try simp only [Act.put, List.setIfInBounds_toArray, List.set_cons_zero, List.set_cons_succ])
    refine take_met 4 (oi := ⟨_, _, _, _, _, _⟩) (v := ?_) (by kernel_rfl) rfl (by rfl) (fun _ _ _ h => h) (by assumption) ?_ ?_
    rotate_left 1
    · intro w hSw
      try dsimp only at hSw
      go_simp
      try with_reducible rfl
    (try simp only [Act.put, List.setIfInBounds_toArray, List.set_cons_zero, List.set_cons_succ])
    refine take_met 5 (oi := ⟨_, _, _, _, _, _⟩) (v := ?_) (by kernel_rfl) rfl (by rfl) (fun _ _ _ h => h) (by assumption) ?_ ?_
    rotate_left 1
    · intro w hSw
      try dsimp only at hSw
      go_simp
      try with_reducible rfl
    (try simp only [Act.put, List.setIfInBounds_toArray, List.set_cons_zero, List.set_cons_succ])
    refine take_met 6 (oi := ⟨_, _, _, _, _, _⟩) (v := ?_) (by kernel_rfl) rfl (by rfl) (fun _ _ _ h => h) (by assumption) ?_ ?_
    rotate_left 1
    · intro w hSw
      try dsimp only at hSw
      go_simp
      try with_reducible rfl
    (try simp only [Act.put, List.setIfInBounds_toArray, List.set_cons_zero, List.set_cons_succ])
    refine take_met 7 (oi := ⟨_, _, _, _, _, _⟩) (v := ?_) (by kernel_rfl) rfl (by rfl) (fun _ _ _ h => h) (by assumption) ?_ ?_
    rotate_left 1
    · intro w hSw
      try dsimp only at hSw
      go_simp
      try with_reducible rfl
    (try simp only [Act.put, List.setIfInBounds_toArray, List.set_cons_zero, List.set_cons_succ])
    refine take_met 8 (oi := ⟨_, _, _, _, _, _⟩) (v := ?_) (by kernel_rfl) rfl (by rfl) (fun _ _ _ h => h) (by assumption) ?_ ?_
    rotate_left 1
    · intro w hSw
      try dsimp only at hSw
      go_simp
      try with_reducible rfl
    (try simp only [Act.put, List.setIfInBounds_toArray, List.set_cons_zero, List.set_cons_succ])
    refine take_only 9 (oi := ⟨_, _, _, _, _, _⟩) (by kernel_rfl) rfl (fun K hK => ?_)
    go_simp
    have hOld := hHeld
    clear hHeld
    refine hK.out _ _ (by exact ⟨(show Grn nw U5 _ from by first | exact Grn.refl.drew | exact ((Grn.refl.drew.setCell _ _).setCell _ _).setCell _ _).cell (by omega) e15, (show Grn nw U5 _ from by first | exact Grn.refl.drew | exact ((Grn.refl.drew.setCell _ _).setCell _ _).setCell _ _).cell (by omega) v15⟩) (fun hHeld => ?_)
    clear hOld hK K
    (try simp only [Act.put, List.setIfInBounds_toArray, List.set_cons_zero, List.set_cons_succ])
    refine wpAnyH_done (by kernel_rfl) ?_ _
    go_wp2_with fail
    go_roundw
    case rel => exact ⟨k + 1, by omega, by go_num, new, (x2 + 1) % 4294967296, 0, HN, hid (((HB5.out.drew.set 0 (by simp) _).set 1 (by simp) _).set 2 (by simp) _), hid (((HG5.out.drew.setCell _ _).setCell _ _).setCell _ _)⟩
    case measure => simp [intOf]; omega

end Go.Proofs.YtojcojghnhibmaaDoor
