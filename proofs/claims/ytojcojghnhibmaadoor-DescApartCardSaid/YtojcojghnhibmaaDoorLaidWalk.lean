/- The walk of law 19's laid. -/
import Derived.Test.YtojcojghnhibmaaDoorAwkA
import Derived.Test.YtojcojghnhibmaaDoorGrn
namespace Go.Proofs.YtojcojghnhibmaaDoor
set_option linter.unusedSimpArgs false
set_option linter.unusedVariables false
open Go.RowKit

/-- Plain: the image in which a descriptor is laid, if it is valid. -/
def laidL (t c b who seq st : Int) (es : List En) (L : List Wd) : List Wd :=
  if dcheckN t c b who seq st es = 0 then putL L (wordsW seq st es) (placeN t c b who).1.toNat (2 + 3 * es.length) else L
theorem wordsW_len (seq st : Int) (es : List En) : (wordsW seq st es).length = 2 + 3 * es.length := by
  unfold wordsW; rw [List.length_append, bodyW_len]; rfl
theorem laidL_len (t c b who seq st : Int) (es : List En) (L : List Wd) : (laidL t c b who seq st es L).length = L.length := by
  unfold laidL; split
  · rw [putL_len]
  · rfl

/-- What laid leaves. -/
def LaidPost (w : World) (t c b who seq st : Int) (es : List En) (L : List Wd) (base g cp : Nat) (e : Ending) (w' : World) : Prop :=
  e = .returned (.bool (dcheckN t c b who seq st es == 0)) ∧ Grn g w w' ∧ Ws w' base (.slice (some ⟨g, 0, none⟩) L.length cp) (laidL t c b who seq st es L)

set_option maxRecDepth 100000 in
set_option maxHeartbeats 2000000 in
theorem laid_any (t c b who seq st : Int) (hck : checkN t c b = 0) (hw1 : -9223372036854775808 ≤ who) (hw2 : who ≤ 9223372036854775807) (es : List En) (dv : Value) (hok : ∀ e ∈ es, EnOk e) (L : List Wd) (base g cp : Nat)
    (W w : World) (hs : Szs W) (hW : Ext W w) (hv : Es W dv es) (hL : Ws w base (.slice (some ⟨g, 0, none⟩) L.length cp) L) (hLs : (L.length : Int) = sizeN t c b) (hg0 : W.heap.size ≤ g) (hg1 : g < w.heap.size) (hLb : L.length ≤ 10000) :
    Calls Tryd.prog 13 #[.agg #[.int .i64 t, .int .i64 c, .int .i64 b], .slice (some ⟨g, 0, none⟩) L.length cp, .agg #[.int .i64 who, .int .i64 seq, .int .i64 st, dv]] w fun e w' => LaidPost w t c b who seq st es L base g cp e w' := by
  have HS := hid hs
  have HW := hid hW
  have HV := hid hv
  have HL := hid hL
  have HO := hid hok
  have HCk := hid hck
  have HLs := hid hLs
  obtain ⟨a, c1, rfl, ⟨hm, hlc⟩, _⟩ := hv
  obtain ⟨n, hn⟩ : ∃ n, n = L.length := ⟨_, rfl⟩
  rw [← hn] at HL hLb ⊢
  have HN := hid hn
  have hbd := place_bd t c b who
  have hroom := hid (fun h => place_room (t := t) (c := c) (b := b) (who := who) h)
  obtain ⟨⟨pa, pm⟩, hp⟩ : ∃ p, p = placeN t c b who := ⟨_, rfl⟩
  rw [← hp] at hbd hroom
  dsimp only at hbd hroom
  have HP := hid hp
  obtain ⟨⟨hp1, hp2⟩, hp3, hp4⟩ := hbd
  clear hs hW hL hok hck hLs hn hp
  by_cases h0 : dcheckN t c b who seq st es = 0
  rotate_left
  · have H0 := hid h0
    have hb : (dcheckN t c b who seq st es != 0) = true := by simpa using h0
    clear h0
    go_enter Tryd.func13, Tryd.ntmps13
    go_wp2_with fail
    refine (dwords_any t c b who seq st hw1 hw2 es _ HO.out _ (HS.out.of (HW.out.trans (by (show Ext _ _; repeat (first | with_reducible (refine Hid.out ?_; assumption) | with_reducible exact Ext.refl _ | with_reducible refine Ext.ext ?_ _ | with_reducible refine Ext.alloc ?_ _ | refine Ext.drew ?_ | refine Ext.drewN ?_ _ | exact Ext.refl _))))) (HV.out.of enE_len (HW.out.trans (by (show Ext _ _; repeat (first | with_reducible (refine Hid.out ?_; assumption) | with_reducible exact Ext.refl _ | with_reducible refine Ext.ext ?_ _ | with_reducible refine Ext.alloc ?_ _ | refine Ext.drew ?_ | refine Ext.drewN ?_ _ | exact Ext.refl _)))))).mono ?_
    rintro y w' ⟨v4, rfl, ⟨r1, rfl⟩, hv4⟩
    rw [if_neg H0.out] at hv4
    obtain ⟨a4, c4, rfl⟩ := Own.shape hv4
    clear hv4
    go_wp2_with fail
    go_call (place_any t c b who hw1 hw2 _ (HS.out.of (HW.out.trans (by (show Ext _ _; repeat (first | with_reducible (refine Hid.out ?_; assumption) | with_reducible exact Ext.refl _ | with_reducible refine Ext.ext ?_ _ | with_reducible refine Ext.alloc ?_ _ | refine Ext.drew ?_ | refine Ext.drewN ?_ _ | exact Ext.refl _)))))) as e w' ⟨rfl, r2, rfl⟩
    rw [← HP.out]
    go_wp2_with fail
    go_ret
    refine ⟨ret_bool (by simp [H0.out]), Grn.of_ext (by (show Ext _ _; repeat (first | with_reducible (refine Hid.out ?_; assumption) | with_reducible exact Ext.refl _ | with_reducible refine Ext.ext ?_ _ | with_reducible refine Ext.alloc ?_ _ | refine Ext.drew ?_ | refine Ext.drewN ?_ _ | exact Ext.refl _))), ?_⟩
    unfold laidL
    rw [if_neg H0.out, ← HN.out]
    exact HL.out.of (by (show Ext _ _; repeat (first | with_reducible (refine Hid.out ?_; assumption) | with_reducible exact Ext.refl _ | with_reducible refine Ext.ext ?_ _ | with_reducible refine Ext.alloc ?_ _ | refine Ext.drew ?_ | refine Ext.drewN ?_ _ | exact Ext.refl _)))
  · have H0 := hid h0
    obtain ⟨_, hpm, _, _, hce, _, _, hel⟩ := dcheck_ok h0
    rw [← HP.out] at hpm hel
    dsimp only at hpm hel
    obtain ⟨hr1, hr2⟩ := hroom.out hpm
    rw [← HLs.out, ← HN.out] at hr2
    obtain ⟨p, rfl⟩ := Int.eq_ofNat_of_zero_le hr1
    obtain ⟨m, hm9⟩ : ∃ m, m = (wordsW seq st es).length := ⟨_, rfl⟩
    have HM := hid hm9
    have hml : m = 2 + 3 * es.length := by rw [hm9, wordsW_len]
    have HMl := hid hml
    have hpm2 : p + m ≤ n := by omega
    clear h0 hroom hpm hce hr1 hr2 hm9
    go_enter Tryd.func13, Tryd.ntmps13
    go_wp2_with fail
    refine (dwords_any t c b who seq st hw1 hw2 es _ HO.out _ (HS.out.of (HW.out.trans (by (show Ext _ _; repeat (first | with_reducible (refine Hid.out ?_; assumption) | with_reducible exact Ext.refl _ | with_reducible refine Ext.ext ?_ _ | with_reducible refine Ext.alloc ?_ _ | refine Ext.drew ?_ | refine Ext.drewN ?_ _ | exact Ext.refl _))))) (HV.out.of enE_len (HW.out.trans (by (show Ext _ _; repeat (first | with_reducible (refine Hid.out ?_; assumption) | with_reducible exact Ext.refl _ | with_reducible refine Ext.ext ?_ _ | with_reducible refine Ext.alloc ?_ _ | refine Ext.drew ?_ | refine Ext.drewN ?_ _ | exact Ext.refl _)))))).mono ?_
    rintro y w' ⟨v4, rfl, ⟨r1, rfl⟩, hv4⟩
    rw [if_pos H0.out] at hv4
    rw [H0.out]
    obtain ⟨g4, c4, rfl, hg4, _⟩ := Ws.open hv4 (by rw [← HM.out, HMl.out]; omega)
    rw [← HM.out] at hv4 ⊢
    simp only [World.size_alloc] at hg4
    have HV4 := hid hv4
    clear hv4 hml
    go_wp2_with fail
    go_call (place_any t c b who hw1 hw2 _ (HS.out.of (HW.out.trans (by (show Ext _ _; repeat (first | with_reducible (refine Hid.out ?_; assumption) | with_reducible exact Ext.refl _ | with_reducible refine Ext.ext ?_ _ | with_reducible refine Ext.alloc ?_ _ | refine Ext.drew ?_ | refine Ext.drewN ?_ _ | exact Ext.refl _)))))) as e w' ⟨rfl, r2, rfl⟩
    rw [← HP.out]
    go_wp2_with fail
    generalize hU : ext _ r2 = U
    have HG0 := hid (show Grn g w U from Grn.of_ext (by rw [← hU]; (show Ext _ _; repeat (first | with_reducible (refine Hid.out ?_; assumption) | with_reducible exact Ext.refl _ | with_reducible refine Ext.ext ?_ _ | with_reducible refine Ext.alloc ?_ _ | refine Ext.drew ?_ | refine Ext.drewN ?_ _ | exact Ext.refl _))))
    have HL0 := hid (show Ws U base (.slice (some ⟨g, 0, none⟩) n cp) L from HL.out.of (by rw [← hU]; (show Ext _ _; repeat (first | with_reducible (refine Hid.out ?_; assumption) | with_reducible exact Ext.refl _ | with_reducible refine Ext.ext ?_ _ | with_reducible refine Ext.alloc ?_ _ | refine Ext.drew ?_ | refine Ext.drewN ?_ _ | exact Ext.refl _))))
    have HX0 := hid (show Sl U 3 wdE (.slice (some ⟨g4, 0, none⟩) m c4) (wordsW seq st es) from (Sl.of_own wdE_len HV4.out).of wdE_len (by rw [← hU]; (show Ext _ _; repeat (first | with_reducible (refine Hid.out ?_; assumption) | with_reducible exact Ext.refl _ | with_reducible refine Ext.ext ?_ _ | with_reducible refine Ext.alloc ?_ _ | refine Ext.drew ?_ | refine Ext.drewN ?_ _ | exact Ext.refl _))))
    have hgg : g4 ≠ g := by omega
    clear hU HV4 HL
    go_loopw [11] (fun i wr => ∃ j : Nat, j ≤ m ∧ i = .int .i64 j ∧ Hid (Ws wr base (.slice (some ⟨g, 0, none⟩) n cp) (putL L (wordsW seq st es) p j)) ∧ Hid (Grn g U wr)) (fun i _ => m - (intOf i).toNat)
    case atStart => exact ⟨0, by omega, rfl, HL0, hid Grn.refl⟩
    case round =>
      clear HL0
      obtain ⟨j, hj, rfl, HL, HG⟩ := hrel
      by_cases hjm : j < m
      · have hd : decide (j < m) = true := decide_eq_true hjm
        obtain ⟨⟨x1, x2, x3⟩, hx⟩ : ∃ x, (wordsW seq st es)[j]? = some x := ⟨_, List.getElem?_eq_getElem (by rw [← HM.out]; omega)⟩
        have HNx := hid (putL_succ (L := L) (p := p) hx)
        obtain ⟨q0, b4, o4, ha4, hbl, hcx⟩ := Sl.at (HX0.out.grn wdE_len HG.out hgg) hx
        cases ha4
        have k0 := hcx 0 (by omega)
        have k1 := hcx 1 (by omega)
        have k2 := hcx 2 (by omega)
        simp [wdE] at k0 k1 k2
        have hlen : (putL L (wordsW seq st es) p j).length = n := by rw [putL_len, ← HN.out]
        obtain ⟨⟨y1, y2, y3⟩, hy⟩ : ∃ y, (putL L (wordsW seq st es) p j)[p + j]? = some y := ⟨_, List.getElem?_eq_getElem (by rw [hlen]; omega)⟩
        obtain ⟨m0, m1, m2⟩ := Ws.cells HL.out hy
        have f0 := Ws.free HL.out ((p + j) * 3)
        have f1 := Ws.free HL.out ((p + j) * 3 + 1)
        have f2 := Ws.free HL.out ((p + j) * 3 + 2)
        have HLn := hid hlen
        have t1 : ((p : Int) + (j : Int)).toNat = p + j := by omega
        have t0 : (0 : Int) ≤ (p : Int) + (j : Int) := by omega
        have t2 : (p : Int) + (j : Int) < (n : Int) := by omega
        clear hcx q0 hx hy hlen
        go_wp2_with fail
        go_roundw
        case rel => exact ⟨j + 1, by omega, by go_num, hid (by rw [HNx.out]; exact Ws.put HL.out (by rw [HLn.out]; omega) x1 x2 x3), hid (((HG.out.setCell _ _).setCell _ _).setCell _ _)⟩
        case measure => simp [intOf]; omega
      · have hd : decide (j < m) = false := decide_eq_false hjm
        obtain rfl : j = m := by omega
        go_wp2_with fail
        go_ret
        refine ⟨ret_bool (by simp [H0.out]), HG0.out.trans HG.out, ?_⟩
        unfold laidL
        rw [if_pos H0.out, ← HN.out, ← HP.out, Int.toNat_natCast, ← HMl.out]
        exact HL.out

end Go.Proofs.YtojcojghnhibmaaDoor
