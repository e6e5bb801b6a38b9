/- The walk of the reference's Logical; plain: it answers as the code's. -/
import Derived.Test.YtojcojghnhibmaaDoorRefC
import Derived.Test.YtojcojghnhibmaaDoorReadLaw
import Derived.Test.YtojcojghnhibmaaDoorLogB
namespace Go.Proofs.YtojcojghnhibmaaDoor
set_option linter.unusedSimpArgs false
set_option linter.unusedVariables false
open Go.RowKit

/-- Plain: what the reference's Logical answers. -/
def rlogW (q : Int → Option (Int × Int × List En)) (x : Wd) (p : Int) : Wd :=
  if x.2.2 = 0 then (x.1, x.2.1, 0) else match q (x.2.2 / 16777216) with
    | none => (x.1, x.2.1, 0)
    | some (seq, st, es) => if seq = x.2.2 % 16777216 ∧ st = 1 then outW x.1 x.2.1 (findW p es) else (x.1, x.2.1, 0)
theorem rlog_law {t c b : Int} {l : List Wd} (ht : t ≤ 8) (hb : b ≤ 64) (x : Wd) (hx : 0 ≤ x.2.2 ∧ x.2.2 ≤ 4294967295) (p : Int) : rlogW (fun who => (readN t c b l who).2) x p = logicW t c b l x p := by
  obtain ⟨x1, x2, x3⟩ := x
  simp only at hx
  unfold rlogW logicW whoN
  dsimp only
  by_cases h0 : x3 = 0
  · subst h0; simp
  rw [if_neg h0]
  by_cases hv : 1 ≤ x3 / 16777216 ∧ x3 / 16777216 ≤ 72 ∧ 1 ≤ x3 % 16777216
  · rw [if_pos hv]
    dsimp only
    rw [if_neg (by omega)]
    rfl
  · rw [if_neg hv]
    dsimp only
    rw [if_pos rfl]
    cases hr : (readN t c b l (x3 / 16777216)).2 with
    | none => rfl
    | some q =>
      obtain ⟨seq, st, es⟩ := q
      obtain ⟨d1, d2, _⟩ := read_some hr
      have hw := place_val (by omega) (by omega) d1
      dsimp only
      rw [if_neg (by omega)]

set_option maxRecDepth 100000 in
set_option maxHeartbeats 2000000 in
theorem rlogical_any (T B sl rm sz : Int) (hT : 0 ≤ T ∧ T ≤ 8) (hB : 0 ≤ B ∧ B ≤ 64) (hsl : 0 ≤ sl ∧ sl ≤ 100000) (hrm : 0 ≤ rm ∧ rm ≤ 100000) (ws : List Bool) (pv : Value) (l : List Wd) (lv : Value) (hok : ∀ a ∈ l, WdOk a)
    (hroom : ∀ who, -9223372036854775808 ≤ who → who ≤ 9223372036854775807 → ¬ (rplaceN T B sl rm who).1 < 0 → (rplaceN T B sl rm who).1 ≤ 30000 ∧ (0 ≤ (rplaceN T B sl rm who).2 ∧ (rplaceN T B sl rm who).2 ≤ 32) ∧ (rplaceN T B sl rm who).1 + 2 + 3 * (rplaceN T B sl rm who).2 ≤ (l.length : Int))
    (n : Nat) (x1 x2 x3 : Int) (hx : l[n]? = some (x1, x2, x3)) (w : World) (hp : Sl w 1 boE pv ws) (hv : Sl w 3 wdE lv l) :
    Calls Tryd.prog 26 #[.agg #[.int .i64 T, .int .i64 B, .int .i64 sl, .int .i64 rm, .int .i64 104, .int .i64 32, pv, .int .i64 sz], lv, .int .i64 n] w
      fun y w' => (∃ r, w' = ext w r) ∧ y = .returned (.agg #[.int .i64 (rlogW (rreadO T B sl rm ws l) (x1, x2, x3) n).1, .int .u32 (rlogW (rreadO T B sl rm ws l) (x1, x2, x3) n).2.1, .int .u32 (rlogW (rreadO T B sl rm ws l) (x1, x2, x3) n).2.2]) := by
  have HV := hid hv
  have HPv := hid hp
  have HOk := hid hok
  have HRoom := hid hroom
  have HT := hid hT
  have HB := hid hB
  have HSl := hid hsl
  have HRm := hid hrm
  have hxk := hok _ (List.mem_of_getElem? hx)
  obtain ⟨a, cp, rfl, ⟨hm, hlc⟩, _⟩ := hv
  obtain ⟨pa, pc, rfl, _, _⟩ := hp
  obtain ⟨g0, bb, oo, hab, hbl, hcs⟩ := Sl.at HV.out hx
  subst hab
  have hnl := (List.getElem?_eq_some_iff.1 hx).1
  have k0 := hcs 0 (by omega)
  have k1 := hcs 1 (by omega)
  have k2 := hcs 2 (by omega)
  simp [wdE] at k0 k1 k2
  obtain ⟨_, ⟨hx0, hx1⟩, ⟨hx2, hx3⟩⟩ := hxk
  dsimp only at hx0 hx1 hx2 hx3
  obtain ⟨who, hwho⟩ : ∃ q, q = x3 / 16777216 := ⟨_, rfl⟩
  obtain ⟨sq, hsq⟩ : ∃ q, q = x3 % 16777216 := ⟨_, rfl⟩
  have ht1 : x3.tdiv 16777216 = who := by rw [Int.tdiv_eq_ediv_of_nonneg hx2]; exact hwho.symm
  have ht2 : x3.tmod 16777216 = sq := by rw [Int.tmod_eq_emod_of_nonneg hx2]; exact hsq.symm
  have hwb0 : 0 ≤ who := by omega
  have hwb1 : who ≤ 255 := by omega
  have hsb0 : 0 ≤ sq := by omega
  have hsb1 : sq ≤ 16777215 := by omega
  have hw1 : IntKind.i64.wrap who = who := IntWalk.i64_in _ (by omega)
  have hw2 : IntKind.i64.wrap sq = sq := IntWalk.i64_in _ (by omega)
  have hnn : (n : Int) < (l.length : Int) := by omega
  obtain ⟨R, hR⟩ : ∃ R, R = rlogW (rreadO T B sl rm ws l) (x1, x2, x3) n := ⟨_, rfl⟩
  rw [← hR]
  have HQ := hid (show R = if x3 = 0 then (x1, x2, 0) else match rreadO T B sl rm ws l who with
    | none => (x1, x2, 0)
    | some (seq, st, es) => if seq = sq ∧ st = 1 then outW x1 x2 (findW n es) else (x1, x2, 0) by
    rw [hR, hwho, hsq]; rfl)
  clear hok hroom hT hB hsl hrm hcs hx g0 hwho hsq hR hm hlc
  go_enter Tryd.func26, Tryd.ntmps26
  go_wp2_with fail
  refine region_ext (by kernel_rfl) (by kernel_rfl) ?_
  repeat (go_big_quiet_step (fail))
  refine wpQuiet_nil ?_
  rintro _ ⟨r1, rfl⟩
  by_cases h0 : x3 = 0
  · have HR := hid (show R = (x1, x2, 0) by rw [HQ.out, if_pos h0])
    have h0b : (x3 == 0) = true := by simpa using h0
    clear h0 HQ
    (repeat (first | go_values | go_skip | go_guarded | go_step | go_upon | (simp only [Int.not_lt, Int.not_le] at *; go_simp) | (go_ite <;> go_prune <;> (try go_simp))))
    refine bodyPost_ret (v := .agg #[.int .i64 x1, .int .u32 x2, .int .u32 0]) (by simp [results, Tryd.results26, go_sem]) rfl ⟨by (show Ext _ _; repeat (first | with_reducible (refine Hid.out ?_; assumption) | with_reducible exact Ext.refl _ | with_reducible refine Ext.ext ?_ _ | with_reducible refine Ext.alloc ?_ _ | with_reducible refine Ext.drew ?_ | with_reducible refine Ext.setCell ?_ (by (try dsimp only); first | omega | (simp; done) | (simp; omega)) _)), by rw [HR.out]⟩
  have h0b : (x3 == 0) = false := by simpa using h0
  have HLw := hid (show R = match rreadO T B sl rm ws l who with
    | none => (x1, x2, 0)
    | some (seq, st, es) => if seq = sq ∧ st = 1 then outW x1 x2 (findW n es) else (x1, x2, 0) by
    rw [HQ.out, if_neg h0])
  clear h0 HQ
  go_wp2_with fail
  refine (rread_any T B sl rm sz HT.out HB.out HSl.out HRm.out ws _ who l _ HOk.out (fun h => HRoom.out who (by omega) (by omega) (by omega)) _ (HPv.out.of boE_len (by (show Ext _ _; repeat (first | with_reducible (refine Hid.out ?_; assumption) | with_reducible exact Ext.refl _ | with_reducible refine Ext.ext ?_ _ | with_reducible refine Ext.alloc ?_ _ | with_reducible refine Ext.drew ?_ | with_reducible refine Ext.setCell ?_ (by (try dsimp only); first | omega | (simp; done) | (simp; omega)) _)))) (HV.out.of wdE_len (by (show Ext _ _; repeat (first | with_reducible (refine Hid.out ?_; assumption) | with_reducible exact Ext.refl _ | with_reducible refine Ext.ext ?_ _ | with_reducible refine Ext.alloc ?_ _ | with_reducible refine Ext.drew ?_ | with_reducible refine Ext.setCell ?_ (by (try dsimp only); first | omega | (simp; done) | (simp; omega)) _))))).mono ?_
  rintro y w' ⟨⟨r5, rfl⟩, a', b', c', s', n', cp', rfl, hq⟩
  cases hrd : rreadO T B sl rm ws l who with
  | none =>
    have HR := hid (show R = (x1, x2, 0) by rw [HLw.out, hrd])
    clear hrd hq HLw
    simp only [Option.isSome_none]
    (repeat (first | go_values | go_skip | go_guarded | go_step | go_upon | (simp only [Int.not_lt, Int.not_le] at *; go_simp) | (go_ite <;> go_prune <;> (try go_simp))))
    refine bodyPost_ret (v := .agg #[.int .i64 x1, .int .u32 x2, .int .u32 0]) (by simp [results, Tryd.results26, go_sem]) rfl ⟨by (show Ext _ _; repeat (first | with_reducible (refine Hid.out ?_; assumption) | with_reducible exact Ext.refl _ | with_reducible refine Ext.ext ?_ _ | with_reducible refine Ext.alloc ?_ _ | with_reducible refine Ext.drew ?_ | with_reducible refine Ext.setCell ?_ (by (try dsimp only); first | omega | (simp; done) | (simp; omega)) _)), by rw [HR.out]⟩
  | some q =>
    obtain ⟨seq, st, es⟩ := q
    obtain ⟨rfl, rfl, rfl, hes⟩ := hq seq st es hrd
    have HLv := hid (show R = if b' = sq ∧ c' = 1 then outW x1 x2 (findW n es) else (x1, x2, 0) by rw [HLw.out, hrd])
    have HEs := hid hes
    obtain ⟨ae, ce, he0, ⟨hme, hlce⟩, _⟩ := hes
    simp only [Value.slice.injEq] at he0
    obtain ⟨rfl, rfl, rfl⟩ := he0
    clear hrd hq HLw
    simp only [Option.isSome_some]
    by_cases hm2 : b' = sq ∧ c' = 1
    rotate_left
    · have HR := hid (show R = (x1, x2, 0) by rw [HLv.out, if_neg hm2])
      have hcs : (b' != sq) = true ∨ ((b' != sq) = false ∧ (c' != 1) = true) := by
        by_cases h5 : b' = sq
        · exact .inr ⟨by simp [h5], by simp; intro h6; exact hm2 ⟨h5, h6⟩⟩
        · exact .inl (by simpa using h5)
      clear hm2
      rcases hcs with h5 | ⟨h5, h6⟩
      all_goals
        (repeat (first | go_values | go_skip | go_guarded | go_step | go_upon | (simp only [Int.not_lt, Int.not_le] at *; go_simp) | (go_ite <;> go_prune <;> (try go_simp))))
        refine bodyPost_ret (v := .agg #[.int .i64 x1, .int .u32 x2, .int .u32 0]) (by simp [results, Tryd.results26, go_sem]) rfl ⟨by (show Ext _ _; repeat (first | with_reducible (refine Hid.out ?_; assumption) | with_reducible exact Ext.refl _ | with_reducible refine Ext.ext ?_ _ | with_reducible refine Ext.alloc ?_ _ | with_reducible refine Ext.drew ?_ | with_reducible refine Ext.setCell ?_ (by (try dsimp only); first | omega | (simp; done) | (simp; omega)) _)), by rw [HR.out]⟩
    · obtain ⟨rfl, rfl⟩ := hm2
      have HFi := hid (show R = outW x1 x2 (findW n (es.drop 0)) by rw [HLv.out, if_pos ⟨rfl, rfl⟩]; rfl)
      clear HLv
      go_wp2_with fail
      generalize hW : World.alloc _ _ = W
      have HB6 := hid (show Blk W (w.heap.size + 1) [.int .i64 0, .int .u32 0, .int .u32 0] by rw [← hW]; (show Blk _ _ _; repeat (first | with_reducible (refine Hid.out ?_; assumption) | with_reducible refine Blk.drew ?_ | with_reducible refine Blk.ext ?_ _ | (with_reducible refine Blk.new _ _ rfl ?_; first | with_reducible rfl | (simp; done)) | with_reducible refine Blk.alloc ?_ _ | with_reducible assumption | with_reducible apply Blk.setE | (with_reducible refine Blk.other' ?_ ?_; first | omega | (simp; omega)) | (show List.set _ _ _ = _; exact rfl) | (show _ < List.length _; simp; done))))
      have HB8 := hid (show Blk W (w.heap.size + 1 + 1) [.int .i64 x1, .int .u32 x2, .int .u32 x3] by rw [← hW]; (show Blk _ _ _; repeat (first | with_reducible (refine Hid.out ?_; assumption) | with_reducible refine Blk.drew ?_ | with_reducible refine Blk.ext ?_ _ | (with_reducible refine Blk.new _ _ rfl ?_; first | with_reducible rfl | (simp; done)) | with_reducible refine Blk.alloc ?_ _ | with_reducible assumption | with_reducible apply Blk.setE | (with_reducible refine Blk.other' ?_ ?_; first | omega | (simp; omega)) | (show List.set _ _ _ = _; exact rfl) | (show _ < List.length _; simp; done))))
      have HB11 := hid (show Blk W (w.heap.size + 1 + 1 + 1 + r1.new.size) [.int .i64 x1, .int .u32 x2, .int .u32 0] by rw [← hW]; (show Blk _ _ _; repeat (first | with_reducible (refine Hid.out ?_; assumption) | with_reducible refine Blk.drew ?_ | with_reducible refine Blk.ext ?_ _ | (with_reducible refine Blk.new _ _ rfl ?_; first | with_reducible rfl | (simp; done)) | with_reducible refine Blk.alloc ?_ _ | with_reducible assumption | with_reducible apply Blk.setE | (with_reducible refine Blk.other' ?_ ?_; first | omega | (simp; omega)) | (show List.set _ _ _ = _; exact rfl) | (show _ < List.length _; simp; done))))
      have HBd := hid (show Blk W (w.heap.size + 1 + 1 + 1 + r1.new.size + 1 + r5.new.size) [.int .i64 a', .int .i64 b', .int .i64 1, .slice s' es.length cp'] by rw [← hW]; (show Blk _ _ _; repeat (first | with_reducible (refine Hid.out ?_; assumption) | with_reducible refine Blk.drew ?_ | with_reducible refine Blk.ext ?_ _ | (with_reducible refine Blk.new _ _ rfl ?_; first | with_reducible rfl | (simp; done)) | with_reducible refine Blk.alloc ?_ _ | with_reducible assumption | with_reducible apply Blk.setE | (with_reducible refine Blk.other' ?_ ?_; first | omega | (simp; omega)) | (show List.set _ _ _ = _; exact rfl) | (show _ < List.length _; simp; done))))
      have HWx := hid (show Ext w W by rw [← hW]; (show Ext _ _; repeat (first | with_reducible (refine Hid.out ?_; assumption) | with_reducible exact Ext.refl _ | with_reducible refine Ext.ext ?_ _ | with_reducible refine Ext.alloc ?_ _ | with_reducible refine Ext.drew ?_ | with_reducible refine Ext.setCell ?_ (by (try dsimp only); first | omega | (simp; done) | (simp; omega)) _)))
      have HE0 := hid (HEs.out.of enE_len (show Ext _ W by rw [← hW]; (show Ext _ _; repeat (first | with_reducible (refine Hid.out ?_; assumption) | with_reducible exact Ext.refl _ | with_reducible refine Ext.ext ?_ _ | with_reducible refine Ext.alloc ?_ _ | with_reducible refine Ext.drew ?_ | with_reducible refine Ext.setCell ?_ (by (try dsimp only); first | omega | (simp; done) | (simp; omega)) _))))
      generalize w.heap.size + 1 + 1 + 1 + r1.new.size + 1 + r5.new.size = gd at *
      generalize w.heap.size + 1 + 1 + 1 + r1.new.size = g11 at *
      clear hW
      go_loopw [13] (fun i wr => ∃ j : Nat, j ≤ es.length ∧ i = .int .i64 j ∧ Hid (R = outW x1 x2 (findW n (es.drop j))) ∧ Hid (Ext W wr)) (fun i _ => es.length - (intOf i).toNat)
      case atStart => exact ⟨0, by omega, rfl, HFi, hid (by (show Ext _ _; repeat (first | with_reducible (refine Hid.out ?_; assumption) | with_reducible exact Ext.refl _ | with_reducible refine Ext.ext ?_ _ | with_reducible refine Ext.alloc ?_ _ | refine Ext.drew ?_ | refine Ext.drewN ?_ _ | exact Ext.refl _)))⟩
      case round =>
        clear HFi
        obtain ⟨j, hj, rfl, HFi, HX⟩ := hrel
        have HXw := hid (HWx.out.trans HX.out)
        have d0 := (HB6.out.of HX.out).2.2 0 _ rfl
        have d1 := (HB6.out.of HX.out).2.2 1 _ rfl
        have d2 := (HB6.out.of HX.out).2.2 2 _ rfl
        have d4 := (HB6.out.of HX.out).2.1 0
        have d5 := (HB6.out.of HX.out).2.1 1
        have d6 := (HB6.out.of HX.out).2.1 2
        have d7 := (HB6.out.of HX.out).1
        obtain ⟨f0, f1, f2, f3⟩ := (HBd.out.of HX.out).four
        have f4 := (HBd.out.of HX.out).1
        by_cases hjl : j < es.length
        · have hd : decide (j < es.length) = true := decide_eq_true hjl
          obtain ⟨hnl, b0, o, hab, hbl, hcs⟩ := Sl.at HE0.out (List.getElem?_eq_getElem hjl)
          have HX1 := hid (List.getElem?_eq_getElem hjl)
          generalize es[j] = e at hcs HX1
          have HA := hid (findW_at (p := n) HX1.out)
          subst hab
          obtain ⟨loc, val, ver, ref, new, wr1⟩ := e
          have q0 := HX.out.cell (hcs 0 (by omega))
          have q1 := HX.out.cell (hcs 1 (by omega))
          have q2 := HX.out.cell (hcs 2 (by omega))
          have q3 := HX.out.cell (hcs 3 (by omega))
          have q4 := HX.out.cell (hcs 4 (by omega))
          have q5 := HX.out.cell (hcs 5 (by omega))
          simp [enE] at q0 q1 q2 q3 q4 q5
          have c1 := (HB8.out.of HX.out).2.2 1 _ rfl
          have c2 := (HB8.out.of HX.out).1
          clear hcs hnl
          by_cases hh : loc = n ∧ wr1 = true
          · have HR := hid (show R = (new, (x2 + 1) % 4294967296, 0) by rw [HFi.out, HA.out, if_pos hh]; rfl)
            obtain ⟨rfl, rfl⟩ := hh
            clear HFi HA
            (repeat (first | go_values | go_skip | go_guarded | go_step | go_upon | (simp only [Int.not_lt, Int.not_le] at *; go_simp) | (go_ite <;> go_prune <;> (try go_simp))))
            refine bodyPost_ret (v := .agg #[.int .i64 new, .int .u32 ((x2 + 1) % 4294967296), .int .u32 0]) (by simp [results, Tryd.results26, go_sem, d0, d1, d2, d7]) rfl ⟨by (show Ext _ _; repeat (first | with_reducible (refine Hid.out ?_; assumption) | with_reducible exact Ext.refl _ | with_reducible refine Ext.ext ?_ _ | with_reducible refine Ext.alloc ?_ _ | with_reducible refine Ext.drew ?_ | with_reducible refine Ext.setCell ?_ (by (try dsimp only); first | omega | (simp; done) | (simp; omega)) _)), by rw [HR.out]⟩
          · have HN := hid (show R = outW x1 x2 (findW n (es.drop (j + 1))) by rw [HFi.out, HA.out, if_neg hh])
            clear HFi HA
            have hcs : (loc == (n : Int)) = false ∨ ((loc == (n : Int)) = true ∧ wr1 = false) := by
              by_cases h5 : loc = n
              · exact .inr ⟨by simp [h5], by cases wr1; rfl; exact absurd ⟨h5, rfl⟩ hh⟩
              · exact .inl (by simpa using h5)
            clear hh
            rcases hcs with h5 | ⟨h5, rfl⟩
            all_goals
              go_wp2_with fail
              go_roundw
              case rel => exact ⟨j + 1, by omega, by go_num, HN, hid (by (show Ext _ _; repeat (first | with_reducible (refine Hid.out ?_; assumption) | with_reducible exact Ext.refl _ | with_reducible refine Ext.ext ?_ _ | with_reducible refine Ext.alloc ?_ _ | with_reducible refine Ext.drew ?_ | with_reducible refine Ext.setCell ?_ (by (try dsimp only); first | omega | (simp; done) | (simp; omega)) _)))⟩
              case measure => simp [intOf]; omega
        · have hd : decide (j < es.length) = false := decide_eq_false hjl
          have HR := hid (show R = (x1, x2, 0) by rw [HFi.out, List.drop_eq_nil_of_le (by omega)]; rfl)
          have c0 := (HB11.out.of HX.out).2.2 0 _ rfl
          have c1 := (HB11.out.of HX.out).2.2 1 _ rfl
          have c2 := (HB11.out.of HX.out).2.2 2 _ rfl
          clear HFi
          (repeat (first | go_values | go_skip | go_guarded | go_step | go_upon | (simp only [Int.not_lt, Int.not_le] at *; go_simp) | (go_ite <;> go_prune <;> (try go_simp))))
          refine bodyPost_ret (v := .agg #[.int .i64 x1, .int .u32 x2, .int .u32 0]) (by simp [results, Tryd.results26, go_sem, d0, d1, d2, d7]) rfl ⟨by (show Ext _ _; repeat (first | with_reducible (refine Hid.out ?_; assumption) | with_reducible exact Ext.refl _ | with_reducible refine Ext.ext ?_ _ | with_reducible refine Ext.alloc ?_ _ | with_reducible refine Ext.drew ?_ | with_reducible refine Ext.setCell ?_ (by (try dsimp only); first | omega | (simp; done) | (simp; omega)) _)), by rw [HR.out]⟩

end Go.Proofs.YtojcojghnhibmaaDoor
