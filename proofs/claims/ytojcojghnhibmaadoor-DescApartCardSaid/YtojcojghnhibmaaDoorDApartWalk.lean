/- The walk of the statement DescApart. -/
import Derived.Test.YtojcojghnhibmaaDoorAwkB
import Derived.Test.YtojcojghnhibmaaDoorPlanB
import Derived.Test.YtojcojghnhibmaaDoorSlD
import Derived.Test.YtojcojghnhibmaaDoorDescH
import Derived.Test.YtojcojghnhibmaaDoorOwn
namespace Go.Proofs.YtojcojghnhibmaaDoor
set_option linter.unusedSimpArgs false
set_option linter.unusedVariables false
open Go.RowKit

/-- The parts of different owners begin apart. -/
theorem field_ne {t c b u v : Int} (hu0 : -9223372036854775808 ≤ u) (hu1 : u ≤ 9223372036854775807) (hv0 : -9223372036854775808 ≤ v) (hv1 : v ≤ 9223372036854775807) (hne : u ≠ v)
    (hu : (placeN t c b u).2 ≠ 0) (hv : (placeN t c b v).2 ≠ 0) : (placeN t c b u).1 ≠ (placeN t c b v).1 := by
  have h := rooms_apart hu0 hu1 hv0 hv1 hne hu hv
  have h1 := (place_bd t c b u).2
  have h2 := (place_bd t c b v).2
  omega

set_option maxRecDepth 100000 in
set_option maxHeartbeats 4000000 in
theorem dapart_any (x y z : Int) (hx : 0 ≤ x ∧ x ≤ 255) (hy : 0 ≤ y ∧ y ≤ 255) (hz : 0 ≤ z ∧ z ≤ 255)
    (ua qa ta : Int) (va : Value) (ea : List En) (hua : -9223372036854775808 ≤ ua ∧ ua ≤ 9223372036854775807)
    (ub qb tb : Int) (vb : Value) (eb : List En) (hub : -9223372036854775808 ≤ ub ∧ ub ≤ 9223372036854775807)
    (w : World) (hs : Szs w) (hva : Es w va ea) (hoka : ∀ e ∈ ea, EnOk e) (hvb : Es w vb eb) (hokb : ∀ e ∈ eb, EnOk e) :
    Calls Tryd.prog 8 #[.agg #[.int .u8 x, .int .u8 y, .int .u8 z], .agg #[.int .i64 ua, .int .i64 qa, .int .i64 ta, va], .agg #[.int .i64 ub, .int .i64 qb, .int .i64 tb, vb]] w fun e w' => e = .returned (.bool true) ∧ ∃ r, w' = ext w r := by
  have HS := hid hs
  obtain ⟨ha1, ha2⟩ := hua
  obtain ⟨hb1, hb2⟩ := hub
  have HX := hid hx
  have HY := hid hy
  have HZ := hid hz
  have HVA := hid hva
  have HVB := hid hvb
  have HOA := hid hoka
  have HOB := hid hokb
  obtain ⟨aa, ca, rfl, _, _⟩ := hva
  obtain ⟨ab, cb, rfl, _, _⟩ := hvb
  clear hs hx hy hz hoka hokb
  by_cases hga : (40 : Int) < (ea.length : Int)
  · have hg : decide ((40 : Int) < (ea.length : Int)) = true := decide_eq_true hga
    go_enter Tryd.func8, Tryd.ntmps8
    go_wp2_with fail
    refine (great_any aa ea.length ca _).mono ?_
    rintro e w' ⟨rfl, r1, rfl⟩
    rw [hg]
    go_wp2_with fail
    refine (dawake_any _ (HS.out.of (by (show Ext _ _; repeat (first | with_reducible (refine Hid.out ?_; assumption) | with_reducible exact Ext.refl _ | with_reducible refine Ext.ext ?_ _ | with_reducible refine Ext.alloc ?_ _ | refine Ext.drew ?_ | refine Ext.drewN ?_ _ | exact Ext.refl _))))).mono ?_
    rintro e w' ⟨rfl, r6, rfl⟩
    go_wp2_with fail
    go_ret
    exact ⟨rfl, by (show Ext _ _; repeat (first | with_reducible (refine Hid.out ?_; assumption) | with_reducible exact Ext.refl _ | with_reducible refine Ext.ext ?_ _ | with_reducible refine Ext.alloc ?_ _ | refine Ext.drew ?_ | refine Ext.drewN ?_ _ | exact Ext.refl _))⟩
  have hg1 : decide ((40 : Int) < (ea.length : Int)) = false := decide_eq_false hga
  by_cases hgb : (40 : Int) < (eb.length : Int)
  · have hg2 : decide ((40 : Int) < (eb.length : Int)) = true := decide_eq_true hgb
    go_enter Tryd.func8, Tryd.ntmps8
    go_wp2_with fail
    refine (great_any aa ea.length ca _).mono ?_
    rintro e w' ⟨rfl, r1, rfl⟩
    rw [hg1]
    go_wp2_with fail
    refine (great_any ab eb.length cb _).mono ?_
    rintro e w' ⟨rfl, r2, rfl⟩
    rw [hg2]
    go_wp2_with fail
    refine (dawake_any _ (HS.out.of (by (show Ext _ _; repeat (first | with_reducible (refine Hid.out ?_; assumption) | with_reducible exact Ext.refl _ | with_reducible refine Ext.ext ?_ _ | with_reducible refine Ext.alloc ?_ _ | refine Ext.drew ?_ | refine Ext.drewN ?_ _ | exact Ext.refl _))))).mono ?_
    rintro e w' ⟨rfl, r6, rfl⟩
    go_wp2_with fail
    go_ret
    exact ⟨rfl, by (show Ext _ _; repeat (first | with_reducible (refine Hid.out ?_; assumption) | with_reducible exact Ext.refl _ | with_reducible refine Ext.ext ?_ _ | with_reducible refine Ext.alloc ?_ _ | refine Ext.drew ?_ | refine Ext.drewN ?_ _ | exact Ext.refl _))⟩
  have hg2 : decide ((40 : Int) < (eb.length : Int)) = false := decide_eq_false hgb
  clear hga hgb
  go_enter Tryd.func8, Tryd.ntmps8
  go_wp2_with fail
  refine (great_any aa ea.length ca _).mono ?_
  rintro e w' ⟨rfl, r1, rfl⟩
  rw [hg1]
  go_wp2_with fail
  refine (great_any ab eb.length cb _).mono ?_
  rintro e w' ⟨rfl, r2, rfl⟩
  rw [hg2]
  go_wp2_with fail
  refine (plan_any x y z HX.out HY.out HZ.out _ (HS.out.of (by (show Ext _ _; repeat (first | with_reducible (refine Hid.out ?_; assumption) | with_reducible exact Ext.refl _ | with_reducible refine Ext.ext ?_ _ | with_reducible refine Ext.alloc ?_ _ | refine Ext.drew ?_ | refine Ext.drewN ?_ _ | exact Ext.refl _))))).mono ?_
  rintro e w' ⟨T, C, B, sl, rm, sz, v, ⟨hT1, hT4⟩, ⟨hC1, hC4⟩, hB4, hsl, hrm, hsz, rfl, ⟨r3, rfl⟩, hsv⟩
  obtain ⟨hck, h7⟩ := plan_ok (T := T) (C := C) (B := B) (by omega) (by omega) (by omega)
  have hr : rightN T C B = true := by unfold rightN; rw [hck]; rfl
  obtain ⟨av, cv, rfl, _, _⟩ := hsv
  have HCk := hid hck
  have hFl := firstL_len hr
  have hFn : ((firstL T C B).length : Int) ≤ 2000 := by rw [hFl]; unfold sizeN; rw [if_pos hr]; exact h7
  have HF := hid hFl
  have hf8 := (from_le7 (right_lok hr).1).2.2.2.2
  have hF0 : 0 < (firstL T C B).length := by
    have h9 : sizeN T C B = fromN T C B 7 := by unfold sizeN; rw [if_pos hr]
    omega
  clear hsl hrm hsz hck h7 hf8
  go_wp2_with fail
  refine (first_any T C B _ (HS.out.of (by (show Ext _ _; repeat (first | with_reducible (refine Hid.out ?_; assumption) | with_reducible exact Ext.refl _ | with_reducible refine Ext.ext ?_ _ | with_reducible refine Ext.alloc ?_ _ | refine Ext.drew ?_ | refine Ext.drewN ?_ _ | exact Ext.refl _))))).mono ?_
  rintro e w' ⟨v8, rfl, ⟨r4, rfl⟩, hv8⟩
  obtain ⟨L, hL⟩ : ∃ L, L = firstL T C B := ⟨_, rfl⟩
  rw [← hL] at hv8 HF hFn hF0
  have HLok := hid (show ∀ a ∈ L, WdOk a by rw [hL]; exact firstL_ok _ _ _)
  obtain ⟨g, c8, rfl, hgb, hgs⟩ := Ws.open hv8 hF0
  have hnl : w.heap.size + 1 + 1 + 1 + r1.new.size + r2.new.size + r3.new.size < g := by simp at hgb; omega
  clear hL hFl hF0
  generalize hU : ext _ r4 = U at *
  have HE := hid (show Ext w U by rw [← hU]; (show Ext _ _; repeat (first | with_reducible (refine Hid.out ?_; assumption) | with_reducible exact Ext.refl _ | with_reducible refine Ext.ext ?_ _ | with_reducible refine Ext.alloc ?_ _ | refine Ext.drew ?_ | refine Ext.drewN ?_ _ | exact Ext.refl _)))
  have HBa := hid (show Blk U (w.heap.size + 1) [.int .i64 ua, .int .i64 qa, .int .i64 ta, .slice aa ea.length ca] by rw [← hU]; (show Blk _ _ _; repeat (first | with_reducible (refine Hid.out ?_; assumption) | with_reducible refine Blk.drew ?_ | with_reducible refine Blk.ext ?_ _ | (with_reducible refine Blk.new _ _ rfl ?_; first | with_reducible rfl | (simp; done)) | with_reducible refine Blk.alloc ?_ _ | with_reducible assumption | with_reducible apply Blk.setE | (with_reducible refine Blk.other' ?_ ?_; first | omega | (simp; omega)) | (show List.set _ _ _ = _; exact rfl) | (show _ < List.length _; simp; done))))
  have HBb := hid (show Blk U (w.heap.size + 1 + 1) [.int .i64 ub, .int .i64 qb, .int .i64 tb, .slice ab eb.length cb] by rw [← hU]; (show Blk _ _ _; repeat (first | with_reducible (refine Hid.out ?_; assumption) | with_reducible refine Blk.drew ?_ | with_reducible refine Blk.ext ?_ _ | (with_reducible refine Blk.new _ _ rfl ?_; first | with_reducible rfl | (simp; done)) | with_reducible refine Blk.alloc ?_ _ | with_reducible assumption | with_reducible apply Blk.setE | (with_reducible refine Blk.other' ?_ ?_; first | omega | (simp; omega)) | (show List.set _ _ _ = _; exact rfl) | (show _ < List.length _; simp; done))))
  have HBl := hid (show Blk U (w.heap.size + 1 + 1 + 1 + r1.new.size + r2.new.size + r3.new.size) [.int .i64 T, .int .i64 C, .int .i64 B] by rw [← hU]; (show Blk _ _ _; repeat (first | with_reducible (refine Hid.out ?_; assumption) | with_reducible refine Blk.drew ?_ | with_reducible refine Blk.ext ?_ _ | (with_reducible refine Blk.new _ _ rfl ?_; first | with_reducible rfl | (simp; done)) | with_reducible refine Blk.alloc ?_ _ | with_reducible assumption | with_reducible apply Blk.setE | (with_reducible refine Blk.other' ?_ ?_; first | omega | (simp; omega)) | (show List.set _ _ _ = _; exact rfl) | (show _ < List.length _; simp; done))))
  generalize hnn : w.heap.size + 1 + 1 + 1 + r1.new.size + r2.new.size + r3.new.size = nl at *
  have hg0 : w.heap.size + 3 ≤ g := by omega
  have HL := hid (show Ws U w.heap.size _ L from Own.mono hv8 (show w.heap.size ≤ _ by simp; omega))
  generalize hnb : w.heap.size + 1 + 1 = nb at *
  generalize hna : w.heap.size + 1 = na at *
  clear hU hv8 hgb
  obtain ⟨a0, a1, a2, a3⟩ := HBa.out.four
  have a4 := HBa.out.1
  obtain ⟨b0, b1, b2, b3⟩ := HBb.out.four
  have b4 := HBb.out.1
  obtain ⟨l0, l1, l2⟩ := HBl.out.three
  have l4 := HBl.out.1
  by_cases hab : ua = ub
  · have hab1 : (ua == ub) = true := by simpa using hab
    clear hab
    go_wp2_with fail
    refine (dawake_any _ (HS.out.of (HE.out.trans (by (show Ext _ _; repeat (first | with_reducible (refine Hid.out ?_; assumption) | with_reducible exact Ext.refl _ | with_reducible refine Ext.ext ?_ _ | with_reducible refine Ext.alloc ?_ _ | refine Ext.drew ?_ | refine Ext.drewN ?_ _ | exact Ext.refl _)))))).mono ?_
    rintro e w' ⟨rfl, r6, rfl⟩
    go_wp2_with fail
    go_ret
    exact ⟨rfl, HE.out.trans (by (show Ext _ _; repeat (first | with_reducible (refine Hid.out ?_; assumption) | with_reducible exact Ext.refl _ | with_reducible refine Ext.ext ?_ _ | with_reducible refine Ext.alloc ?_ _ | refine Ext.drew ?_ | refine Ext.drewN ?_ _ | exact Ext.refl _)))⟩
  have hab1 : (ua == ub) = false := by simpa using hab
  have HAb := hid hab
  clear hab
  by_cases hda : dcheckN T C B ua qa ta ea = 0
  rotate_left
  · have hdb : (dcheckN T C B ua qa ta ea == 0) = false := by simpa using hda
    clear hda
    go_wp2_with fail
    refine (laid_any T C B ua qa ta HCk.out ha1 ha2 ea _ HOA.out L w.heap.size g c8 w _ HS.out (HE.out.trans (by (show Ext _ _; repeat (first | with_reducible (refine Hid.out ?_; assumption) | with_reducible exact Ext.refl _ | with_reducible refine Ext.ext ?_ _ | with_reducible refine Ext.alloc ?_ _ | refine Ext.drew ?_ | refine Ext.drewN ?_ _ | exact Ext.refl _)))) HVA.out (HL.out.of (by (show Ext _ _; repeat (first | with_reducible (refine Hid.out ?_; assumption) | with_reducible exact Ext.refl _ | with_reducible refine Ext.ext ?_ _ | with_reducible refine Ext.alloc ?_ _ | refine Ext.drew ?_ | refine Ext.drewN ?_ _ | exact Ext.refl _)))) HF.out (by omega) (by omega) (by omega)).mono ?_
    rintro e w' ⟨rfl, hG, _⟩
    rw [hdb]
    have HEb := hid ((HE.out.trans (show Ext U _ by (show Ext _ _; repeat (first | with_reducible (refine Hid.out ?_; assumption) | with_reducible exact Ext.refl _ | with_reducible refine Ext.ext ?_ _ | with_reducible refine Ext.alloc ?_ _ | refine Ext.drew ?_ | refine Ext.drewN ?_ _ | exact Ext.refl _)))).grn hG (by omega))
    clear hG
    go_wp2_with fail
    refine (dawake_any _ (HS.out.of (HEb.out.trans (by (show Ext _ _; repeat (first | with_reducible (refine Hid.out ?_; assumption) | with_reducible exact Ext.refl _ | with_reducible refine Ext.ext ?_ _ | with_reducible refine Ext.alloc ?_ _ | refine Ext.drew ?_ | refine Ext.drewN ?_ _ | exact Ext.refl _)))))).mono ?_
    rintro e w' ⟨rfl, r6, rfl⟩
    go_wp2_with fail
    go_ret
    exact ⟨rfl, HEb.out.trans (by (show Ext _ _; repeat (first | with_reducible (refine Hid.out ?_; assumption) | with_reducible exact Ext.refl _ | with_reducible refine Ext.ext ?_ _ | with_reducible refine Ext.alloc ?_ _ | refine Ext.drew ?_ | refine Ext.drewN ?_ _ | exact Ext.refl _)))⟩
  have hdb : (dcheckN T C B ua qa ta ea == 0) = true := by simpa using hda
  have HDa := hid hda
  clear hda
  go_wp2_with fail
  refine (laid_any T C B ua qa ta HCk.out ha1 ha2 ea _ HOA.out L w.heap.size g c8 w _ HS.out HE.out HVA.out HL.out HF.out (by omega) (by omega) (by omega)).mono ?_
  rintro e V ⟨rfl, hG, hL1⟩
  rw [hdb]
  have HEV := hid (HE.out.grn hG (by omega))
  have HBaV := hid (HBa.out.grn hG (by omega))
  have HBbV := hid (HBb.out.grn hG (by omega))
  have HBlV := hid (HBl.out.grn hG (by omega))
  have hgV : g < V.heap.size := Nat.lt_of_lt_of_le hgs hG.size
  have hF1 : ((laidL T C B ua qa ta ea L).length : Int) = sizeN T C B := by rw [laidL_len]; exact HF.out
  have HR1 := hid (read_laid HDa.out HF.out)
  have HLo1 := hid (laidL_ok (t := T) (c := C) (b := B) (who := ua) (seq := qa) (st := ta) HLok.out HOA.out)
  obtain ⟨L1, hL9⟩ : ∃ L1, L1 = laidL T C B ua qa ta ea L := ⟨_, rfl⟩
  have hlen : L1.length = L.length := by rw [hL9, laidL_len]
  rw [← hL9] at hL1 hF1 HR1 HLo1
  rw [← hlen] at hL1 hFn
  have HL1 := hid hL1
  have HF1 := hid hF1
  clear hL1 hF1 hG hL9 HL HF HE HBa HBb HBl a0 a1 a2 a3 a4 b0 b1 b2 b3 b4 l0 l1 l2 l4 hgs HLok
  rw [← hlen]
  clear hlen
  obtain ⟨a0, a1, a2, a3⟩ := HBaV.out.four
  have a4 := HBaV.out.1
  obtain ⟨b0, b1, b2, b3⟩ := HBbV.out.four
  have b4 := HBbV.out.1
  obtain ⟨l0, l1, l2⟩ := HBlV.out.three
  have l4 := HBlV.out.1
  by_cases hdd : dcheckN T C B ub qb tb eb = 0
  rotate_left
  · have hde : (dcheckN T C B ub qb tb eb == 0) = false := by simpa using hdd
    clear hdd
    go_wp2_with fail
    refine (laid_any T C B ub qb tb HCk.out hb1 hb2 eb _ HOB.out L1 w.heap.size g c8 w _ HS.out HEV.out HVB.out HL1.out HF1.out (by omega) (by omega) (by omega)).mono ?_
    rintro e w' ⟨rfl, hG, _⟩
    rw [hde]
    have HEb := hid (HEV.out.grn hG (by omega))
    clear hG
    go_wp2_with fail
    refine (dawake_any _ (HS.out.of (HEb.out.trans (by (show Ext _ _; repeat (first | with_reducible (refine Hid.out ?_; assumption) | with_reducible exact Ext.refl _ | with_reducible refine Ext.ext ?_ _ | with_reducible refine Ext.alloc ?_ _ | refine Ext.drew ?_ | refine Ext.drewN ?_ _ | exact Ext.refl _)))))).mono ?_
    rintro e w' ⟨rfl, r6, rfl⟩
    go_wp2_with fail
    go_ret
    exact ⟨rfl, HEb.out.trans (by (show Ext _ _; repeat (first | with_reducible (refine Hid.out ?_; assumption) | with_reducible exact Ext.refl _ | with_reducible refine Ext.ext ?_ _ | with_reducible refine Ext.alloc ?_ _ | refine Ext.drew ?_ | refine Ext.drewN ?_ _ | exact Ext.refl _)))⟩
  have hde : (dcheckN T C B ub qb tb eb == 0) = true := by simpa using hdd
  have HDb := hid hdd
  clear hdd
  go_wp2_with fail
  refine (laid_any T C B ub qb tb HCk.out hb1 hb2 eb _ HOB.out L1 w.heap.size g c8 w _ HS.out HEV.out HVB.out HL1.out HF1.out (by omega) (by omega) (by omega)).mono ?_
  rintro e Z ⟨rfl, hG, hL2⟩
  rw [hde]
  have HEZ := hid (HEV.out.grn hG (by omega))
  have HBaZ := hid (HBaV.out.grn hG (by omega))
  have HBbZ := hid (HBbV.out.grn hG (by omega))
  have HBlZ := hid (HBlV.out.grn hG (by omega))
  have HR2a := hid (show readN T C B (laidL T C B ub qb tb eb L1) ua = (0, some (qa, ta, ea)) by rw [read_other ha1 ha2 hb1 hb2 HAb.out HF1.out]; exact HR1.out)
  have HR2b := hid (read_laid HDb.out HF1.out)
  have HLo2 := hid (laidL_ok (t := T) (c := C) (b := B) (who := ub) (seq := qb) (st := tb) HLo1.out HOB.out)
  obtain ⟨L2, hL9⟩ : ∃ L2, L2 = laidL T C B ub qb tb eb L1 := ⟨_, rfl⟩
  have hlen : L2.length = L1.length := by rw [hL9, laidL_len]
  rw [← hL9] at hL2 HR2a HR2b HLo2
  rw [← hlen] at hL2
  have HL2 := hid (show Sl Z 3 wdE (.slice (some ⟨g, 0, none⟩) L2.length c8) L2 from Sl.of_own wdE_len hL2)
  clear hL2 hG hL9 HL1 HF1 HEV HBaV HBbV HBlV a0 a1 a2 a3 a4 b0 b1 b2 b3 b4 l0 l1 l2 l4 hgV HLo1 HR1
  rw [← hlen]
  clear hlen
  obtain ⟨a0, a1, a2, a3⟩ := HBaZ.out.four
  have a4 := HBaZ.out.1
  obtain ⟨b0, b1, b2, b3⟩ := HBbZ.out.four
  have b4 := HBbZ.out.1
  obtain ⟨l0, l1, l2⟩ := HBlZ.out.three
  have l4 := HBlZ.out.1
  obtain ⟨p1, hp1⟩ : ∃ p, p = (placeN T C B ua).1 := ⟨_, rfl⟩
  obtain ⟨p2, hp2⟩ : ∃ p, p = (placeN T C B ub).1 := ⟨_, rfl⟩
  have hpa := (dcheck_ok HDa.out).2.1
  have hpb := (dcheck_ok HDb.out).2.1
  have hpne : (p1 + 2 != p2 + 2) = true := by
    have := field_ne ha1 ha2 hb1 hb2 HAb.out hpa hpb
    rw [← hp1, ← hp2] at this
    simp; omega
  have HFa := hid (show fieldN T C B ua 0 0 = (p1 + 2, 0) by
    have := (place_bd T C B ua).2
    unfold fieldN; rw [if_neg (by rw [HCk.out]; simp), if_neg (by omega), ← hp1]; simp)
  have HFb := hid (show fieldN T C B ub 0 0 = (p2 + 2, 0) by
    have := (place_bd T C B ub).2
    unfold fieldN; rw [if_neg (by rw [HCk.out]; simp), if_neg (by omega), ← hp2]; simp)
  have HSa := hid (show sameB ea ea = true from (sameB_iff ea ea).2 rfl)
  have HSb := hid (show sameB eb eb = true from (sameB_iff eb eb).2 rfl)
  clear hpa hpb hp1 hp2
  go_wp2_with fail
  refine (read_any T C B ua ha1 ha2 L2 _ HLo2.out _ (HS.out.of (HEZ.out.trans (by (show Ext _ _; repeat (first | with_reducible (refine Hid.out ?_; assumption) | with_reducible exact Ext.refl _ | with_reducible refine Ext.ext ?_ _ | with_reducible refine Ext.alloc ?_ _ | refine Ext.drew ?_ | refine Ext.drewN ?_ _ | exact Ext.refl _))))) (HL2.out.of wdE_len (by (show Ext _ _; repeat (first | with_reducible (refine Hid.out ?_; assumption) | with_reducible exact Ext.refl _ | with_reducible refine Ext.ext ?_ _ | with_reducible refine Ext.alloc ?_ _ | refine Ext.drew ?_ | refine Ext.drewN ?_ _ | exact Ext.refl _))))).mono ?_
  rintro y w' ⟨⟨r5, rfl⟩, hy⟩
  rw [HR2a.out] at hy
  dsimp only at hy
  obtain ⟨x5, rfl, hx5⟩ := hy
  have HX5 := hid hx5
  obtain ⟨s5, c5, rfl, _, _⟩ := hx5
  go_wp2_with fail
  refine (read_any T C B ub hb1 hb2 L2 _ HLo2.out _ (HS.out.of (HEZ.out.trans (by (show Ext _ _; repeat (first | with_reducible (refine Hid.out ?_; assumption) | with_reducible exact Ext.refl _ | with_reducible refine Ext.ext ?_ _ | with_reducible refine Ext.alloc ?_ _ | refine Ext.drew ?_ | refine Ext.drewN ?_ _ | exact Ext.refl _))))) (HL2.out.of wdE_len (by (show Ext _ _; repeat (first | with_reducible (refine Hid.out ?_; assumption) | with_reducible exact Ext.refl _ | with_reducible refine Ext.ext ?_ _ | with_reducible refine Ext.alloc ?_ _ | refine Ext.drew ?_ | refine Ext.drewN ?_ _ | exact Ext.refl _))))).mono ?_
  rintro y w' ⟨⟨r6, rfl⟩, hy⟩
  rw [HR2b.out] at hy
  dsimp only at hy
  obtain ⟨x6, rfl, hx6⟩ := hy
  have HX6 := hid hx6
  obtain ⟨s6, c6, rfl, _, _⟩ := hx6
  go_wp2_with fail
  refine (field_any T C B ua 0 0 ha1 ha2 _ (HS.out.of (HEZ.out.trans (by (show Ext _ _; repeat (first | with_reducible (refine Hid.out ?_; assumption) | with_reducible exact Ext.refl _ | with_reducible refine Ext.ext ?_ _ | with_reducible refine Ext.alloc ?_ _ | refine Ext.drew ?_ | refine Ext.drewN ?_ _ | exact Ext.refl _)))))).mono ?_
  rintro e w' ⟨rfl, r7, rfl⟩
  rw [HFa.out]
  dsimp only
  go_wp2_with fail
  refine (field_any T C B ub 0 0 hb1 hb2 _ (HS.out.of (HEZ.out.trans (by (show Ext _ _; repeat (first | with_reducible (refine Hid.out ?_; assumption) | with_reducible exact Ext.refl _ | with_reducible refine Ext.ext ?_ _ | with_reducible refine Ext.alloc ?_ _ | refine Ext.drew ?_ | refine Ext.drewN ?_ _ | exact Ext.refl _)))))).mono ?_
  rintro e w' ⟨rfl, r8, rfl⟩
  rw [HFb.out]
  dsimp only
  go_wp2_with fail
  refine (same_any ea ea _ _ _ (HX5.out.of enE_len (by (show Ext _ _; repeat (first | with_reducible (refine Hid.out ?_; assumption) | with_reducible exact Ext.refl _ | with_reducible refine Ext.ext ?_ _ | with_reducible refine Ext.alloc ?_ _ | refine Ext.drew ?_ | refine Ext.drewN ?_ _ | exact Ext.refl _)))) (HVA.out.of enE_len (HEZ.out.trans (by (show Ext _ _; repeat (first | with_reducible (refine Hid.out ?_; assumption) | with_reducible exact Ext.refl _ | with_reducible refine Ext.ext ?_ _ | with_reducible refine Ext.alloc ?_ _ | refine Ext.drew ?_ | refine Ext.drewN ?_ _ | exact Ext.refl _)))))).mono ?_
  rintro e w' ⟨rfl, r9, rfl⟩
  rw [HSa.out]
  go_wp2_with fail
  refine (same_any eb eb _ _ _ (HX6.out.of enE_len (by (show Ext _ _; repeat (first | with_reducible (refine Hid.out ?_; assumption) | with_reducible exact Ext.refl _ | with_reducible refine Ext.ext ?_ _ | with_reducible refine Ext.alloc ?_ _ | refine Ext.drew ?_ | refine Ext.drewN ?_ _ | exact Ext.refl _)))) (HVB.out.of enE_len (HEZ.out.trans (by (show Ext _ _; repeat (first | with_reducible (refine Hid.out ?_; assumption) | with_reducible exact Ext.refl _ | with_reducible refine Ext.ext ?_ _ | with_reducible refine Ext.alloc ?_ _ | refine Ext.drew ?_ | refine Ext.drewN ?_ _ | exact Ext.refl _)))))).mono ?_
  rintro e w' ⟨rfl, r10, rfl⟩
  rw [HSb.out]
  go_wp2_with fail
  refine (dawake_any _ (HS.out.of (HEZ.out.trans (by (show Ext _ _; repeat (first | with_reducible (refine Hid.out ?_; assumption) | with_reducible exact Ext.refl _ | with_reducible refine Ext.ext ?_ _ | with_reducible refine Ext.alloc ?_ _ | refine Ext.drew ?_ | refine Ext.drewN ?_ _ | exact Ext.refl _)))))).mono ?_
  rintro e w' ⟨rfl, r11, rfl⟩
  go_wp2_with fail
  go_ret
  exact ⟨rfl, HEZ.out.trans (by (show Ext _ _; repeat (first | with_reducible (refine Hid.out ?_; assumption) | with_reducible exact Ext.refl _ | with_reducible refine Ext.ext ?_ _ | with_reducible refine Ext.alloc ?_ _ | refine Ext.drew ?_ | refine Ext.drewN ?_ _ | exact Ext.refl _)))⟩

end Go.Proofs.YtojcojghnhibmaaDoor
