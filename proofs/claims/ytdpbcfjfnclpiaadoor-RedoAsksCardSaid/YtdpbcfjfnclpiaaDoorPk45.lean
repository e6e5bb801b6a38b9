/- The walk of package redo's Clean, with its closures and slices.ContainsFunc. -/
import Derived.Test.YtdpbcfjfnclpiaaDoorPk17
namespace Go.Proofs.YtdpbcfjfnclpiaaDoor
set_option linter.unusedSimpArgs false
set_option linter.unusedVariables false
open Go.RowKit
def ask1 (L : List Wd) (p : Nat) : Bool := match L[p]? with | some x => decide (x.2.2 = 0) | none => true
def ask2 (L : List Wd) (p : Nat) : Bool := match L[p]? with | some x => !undB x | none => true
def ask3 (L : List Wd) (p : Nat) : Bool := match L[p]? with | some x => wdB x (0, 0, 0) | none => true
theorem cleanW_any (L : List Wd) (ms ss os : List Nat) : cleanW L ms ss os = (!ms.any (fun p => !ask1 L p) && (!ss.any (fun p => !ask2 L p) && !os.any (fun p => !ask3 L p))) := by
 unfold cleanW
 rw [← List.all_eq_not_any_not, ← List.all_eq_not_any_not, ← List.all_eq_not_any_not]
 rfl
theorem any_take {l : List Nat} {q : Nat → Bool} {j p : Nat} (h : l[j]? = some p) (hq : q p = false) (ha : (l.take j).any q = false) : (l.take (j + 1)).any q = false := by
 obtain ⟨h1, h2⟩ := List.getElem?_eq_some_iff.1 h
 rw [List.take_succ_eq_append_getElem h1, h2, List.any_append, ha]; simp [hq]
theorem any_found {l : List Nat} {q : Nat → Bool} {j p : Nat} (h : l[j]? = some p) (hq : q p = true) : l.any q = true :=
 List.any_eq_true.2 ⟨p, List.mem_of_getElem? h, hq⟩
set_option maxHeartbeats 400000 in
theorem clo1_any (L : List Wd) (b0 o0 n cp bp p : Nat) (x1 x2 x3 : Int) (hx : L[p]? = some (x1, x2, x3)) (w : World) (hl : Wsl w (.slice (some ⟨b0, o0, none⟩) n cp) L) (hb : w.cell? ⟨bp, 0, none⟩ = some (.slice (some ⟨b0, o0, none⟩) n cp)) :
 Calls Tryd.prog 51 #[.int .i64 p, .pointer (some ⟨bp, 0, none⟩)] w fun e w' => e = .returned (.bool (!ask1 L p)) ∧ ∃ r, w' = ext w r := by
 have HR := hid (show ask1 L p = (decide (x3 = 0)) by unfold ask1; rw [hx])
 obtain ⟨hn, b5, o5, hab, hb5, hc5⟩ := Sl.at hl hx
 cases hab
 have hp : p < n := by rw [hn]; exact (List.getElem?_eq_some_iff.1 hx).1
 have hpi : (p : Int) < (n : Int) := by omega
 have q0 := hc5 0 (by omega)
 have q1 := hc5 1 (by omega)
 have q2 := hc5 2 (by omega)
 simp [wdE] at q0 q1 q2
 have hbl : bp < w.heap.size := World.block_lt_of_cell? w _ hb
 clear hn hc5 hx hl hp
 cases h : decide (x3 = 0)
 ·have hn0 : (x3 != 0) = true := by simpa using h
  rw [h] at HR
  clear h
  go_enter Tryd.func51, Tryd.ntmps51
  go_wp2_with fail
  go_ret
  exact ⟨ret_bool (by rw [HR.out]; rfl), by (show Ext _ _; repeat first | (with_reducible first | (refine xH ?_; assumption) | exact xR _ | refine xX ?_ _ | refine xA ?_ _) | refine xD ?_ | refine xN ?_ _ | exact xR _)⟩
 ·have hn0 : (x3 != 0) = false := by simpa using h
  rw [h] at HR
  clear h
  go_enter Tryd.func51, Tryd.ntmps51
  go_wp2_with fail
  go_ret
  exact ⟨ret_bool (by rw [HR.out]; rfl), by (show Ext _ _; repeat first | (with_reducible first | (refine xH ?_; assumption) | exact xR _ | refine xX ?_ _ | refine xA ?_ _) | refine xD ?_ | refine xN ?_ _ | exact xR _)⟩
set_option maxHeartbeats 1000000 in
theorem idx1_any (L : List Wd) (b0 o0 n cp bp : Nat) (l : List Nat) (v : Value) (hin : ∀ (j p : Nat), l[j]? = some p → p < L.length) (hln : l.length ≤ 100000) (w : World) (hv : Sl w 1 locE v l) (hl : Wsl w (.slice (some ⟨b0, o0, none⟩) n cp) L) (hb : w.cell? ⟨bp, 0, none⟩ = some (.slice (some ⟨b0, o0, none⟩) n cp)) :
 Calls Tryd.prog 64 #[v, .func (.func 51) #[] #[.pointer (some ⟨bp, 0, none⟩)]] w fun e w' => (∃ r : Int, e = .returned (.int .i64 r) ∧ decide (0 ≤ r) = l.any (fun p => !ask1 L p)) ∧ ∃ r, w' = ext w r := by
 have HV := hid hv
 have HL := hid hl
 have HB := hid hb
 have HIn := hid hin
 obtain ⟨a, c, rfl, hm, hq⟩ := hv
 clear hm hq hl hb hin
 go_enter Tryd.func64, Tryd.ntmps64
 go_wp2_with fail
 go_loopw [8] (fun i wr => ∃ j : Nat, j ≤ l.length ∧ i = .int .i64 j ∧ Hid ((l.take j).any (fun p => !ask1 L p) = false) ∧ Hid (Ext w wr)) (fun i _ => l.length - (intOf i).toNat)
 case atStart => exact ⟨0, by omega, rfl, hid rfl, hid (Ext.refl _)⟩
 case round =>
 obtain ⟨j, hj, rfl, HA, HX⟩ := hrel
 by_cases hjl : j < l.length
 rotate_left
 ·have hd : decide (j < l.length) = false := decide_eq_false hjl
  obtain rfl : j = l.length := by omega
  rw [List.take_length] at HA
  go_wp2_with fail
  go_ret
  exact ⟨⟨-1, rfl, by rw [HA.out]; rfl⟩, HX.out.trans (by (show Ext _ _; repeat first | (with_reducible first | (refine xH ?_; assumption) | exact xR _ | refine xX ?_ _ | refine xA ?_ _) | refine xD ?_ | refine xN ?_ _ | exact xR _))⟩
 have hd : decide (j < l.length) = true := decide_eq_true hjl
 have hji : (j : Int) < (l.length : Int) := by omega
 obtain ⟨p, hp⟩ : ∃ p, l[j]? = some p := ⟨_, List.getElem?_eq_getElem hjl⟩
 have HP := hid hp
 obtain ⟨_, bm, om, hab, hbm, hcm⟩ := Sl.at (HV.out.of locE_len HX.out) hp
 subst hab
 have k0 := hcm 0 (by omega)
 simp [locE] at k0
 have hpl := HIn.out j p hp
 obtain ⟨⟨x1, x2, x3⟩, hx⟩ : ∃ x, L[p]? = some x := ⟨_, List.getElem?_eq_getElem hpl⟩
 have HXx := hid hx
 clear hcm hp hx hpl
 cases hq : ask1 L p
 ·have HQ := hid hq
  clear hq
  go_wp2_with fail
  refine (clo1_any L b0 o0 n cp bp p x1 x2 x3 HXx.out _ (HL.out.of wdE_len (HX.out.trans (by (show Ext _ _; repeat first | (with_reducible first | (refine xH ?_; assumption) | exact xR _ | refine xX ?_ _ | refine xA ?_ _) | refine xD ?_ | refine xN ?_ _ | exact xR _)))) ((HX.out.trans (by (show Ext _ _; repeat first | (with_reducible first | (refine xH ?_; assumption) | exact xR _ | refine xX ?_ _ | refine xA ?_ _) | refine xD ?_ | refine xN ?_ _ | exact xR _))).cell HB.out)).mono ?_
  rintro e w' ⟨rfl, r1, rfl⟩
  rw [HQ.out]
  go_wp2_with fail
  go_ret
  exact ⟨⟨j, rfl, by rw [any_found HP.out (by rw [HQ.out]; rfl)]; exact decide_eq_true (by omega)⟩, HX.out.trans (by (show Ext _ _; repeat first | (with_reducible first | (refine xH ?_; assumption) | exact xR _ | refine xX ?_ _ | refine xA ?_ _) | refine xD ?_ | refine xN ?_ _ | exact xR _))⟩
 ·have HQ := hid hq
  clear hq
  go_wp2_with fail
  refine (clo1_any L b0 o0 n cp bp p x1 x2 x3 HXx.out _ (HL.out.of wdE_len (HX.out.trans (by (show Ext _ _; repeat first | (with_reducible first | (refine xH ?_; assumption) | exact xR _ | refine xX ?_ _ | refine xA ?_ _) | refine xD ?_ | refine xN ?_ _ | exact xR _)))) ((HX.out.trans (by (show Ext _ _; repeat first | (with_reducible first | (refine xH ?_; assumption) | exact xR _ | refine xX ?_ _ | refine xA ?_ _) | refine xD ?_ | refine xN ?_ _ | exact xR _))).cell HB.out)).mono ?_
  rintro e w' ⟨rfl, r1, rfl⟩
  rw [HQ.out]
  go_wp2_with fail
  go_roundw
  case rel => exact ⟨j + 1, by omega, by go_num, hid (any_take HP.out (by rw [HQ.out]; rfl) HA.out), hid (HX.out.trans (by (show Ext _ _; repeat first | (with_reducible first | (refine xH ?_; assumption) | exact xR _ | refine xX ?_ _ | refine xA ?_ _) | refine xD ?_ | refine xN ?_ _ | exact xR _)))⟩
  case measure => simp [intOf]; omega
set_option maxHeartbeats 400000 in
theorem cont1_any (L : List Wd) (b0 o0 n cp bp : Nat) (l : List Nat) (v : Value) (hin : ∀ (j p : Nat), l[j]? = some p → p < L.length) (hln : l.length ≤ 100000) (w : World) (hv : Sl w 1 locE v l) (hl : Wsl w (.slice (some ⟨b0, o0, none⟩) n cp) L) (hb : w.cell? ⟨bp, 0, none⟩ = some (.slice (some ⟨b0, o0, none⟩) n cp)) :
 Calls Tryd.prog 50 #[v, .func (.func 51) #[] #[.pointer (some ⟨bp, 0, none⟩)]] w fun e w' => e = .returned (.bool (l.any (fun p => !ask1 L p))) ∧ ∃ r, w' = ext w r := by
 have HV := hid hv
 have HL := hid hl
 have HB := hid hb
 have HIn := hid hin
 clear hv hl hb hin
 go_enter Tryd.func50, Tryd.ntmps50
 go_wp2_with fail
 refine (idx1_any L b0 o0 n cp bp l _ HIn.out hln _ (HV.out.of locE_len (by (show Ext _ _; repeat first | (with_reducible first | (refine xH ?_; assumption) | exact xR _ | refine xX ?_ _ | refine xA ?_ _) | refine xD ?_ | refine xN ?_ _ | exact xR _))) (HL.out.of wdE_len (by (show Ext _ _; repeat first | (with_reducible first | (refine xH ?_; assumption) | exact xR _ | refine xX ?_ _ | refine xA ?_ _) | refine xD ?_ | refine xN ?_ _ | exact xR _))) ((show Ext w _ by (show Ext _ _; repeat first | (with_reducible first | (refine xH ?_; assumption) | exact xR _ | refine xX ?_ _ | refine xA ?_ _) | refine xD ?_ | refine xN ?_ _ | exact xR _)).cell HB.out)).mono ?_
 rintro e w' ⟨⟨r, rfl, hr⟩, r1, rfl⟩
 have HRr := hid hr
 clear hr
 go_wp2_with fail
 go_ret
 exact ⟨ret_bool HRr.out, by (show Ext _ _; repeat first | (with_reducible first | (refine xH ?_; assumption) | exact xR _ | refine xX ?_ _ | refine xA ?_ _) | refine xD ?_ | refine xN ?_ _ | exact xR _)⟩
set_option maxHeartbeats 400000 in
theorem clo2_any (L : List Wd) (b0 o0 n cp bp p : Nat) (x1 x2 x3 : Int) (hx : L[p]? = some (x1, x2, x3)) (w : World) (hl : Wsl w (.slice (some ⟨b0, o0, none⟩) n cp) L) (hb : w.cell? ⟨bp, 0, none⟩ = some (.slice (some ⟨b0, o0, none⟩) n cp)) :
 Calls Tryd.prog 52 #[.int .i64 p, .pointer (some ⟨bp, 0, none⟩)] w fun e w' => e = .returned (.bool (!ask2 L p)) ∧ ∃ r, w' = ext w r := by
 have HR := hid (show ask2 L p = (!undB (x1, x2, x3)) by unfold ask2; rw [hx])
 obtain ⟨hn, b5, o5, hab, hb5, hc5⟩ := Sl.at hl hx
 cases hab
 have hp : p < n := by rw [hn]; exact (List.getElem?_eq_some_iff.1 hx).1
 have hpi : (p : Int) < (n : Int) := by omega
 have q0 := hc5 0 (by omega)
 have q1 := hc5 1 (by omega)
 have q2 := hc5 2 (by omega)
 simp [wdE] at q0 q1 q2
 have hbl : bp < w.heap.size := World.block_lt_of_cell? w _ hb
 clear hn hc5 hx hl hp
 go_enter Tryd.func52, Tryd.ntmps52
 go_wp2_with fail
 refine (und_any x1 x2 x3 _).mono ?_
 rintro e w' ⟨rfl, r1, rfl⟩
 go_wp2_with fail
 go_ret
 exact ⟨ret_bool (by rw [HR.out]; simp), by (show Ext _ _; repeat first | (with_reducible first | (refine xH ?_; assumption) | exact xR _ | refine xX ?_ _ | refine xA ?_ _) | refine xD ?_ | refine xN ?_ _ | exact xR _)⟩
set_option maxHeartbeats 1000000 in
theorem idx2_any (L : List Wd) (b0 o0 n cp bp : Nat) (l : List Nat) (v : Value) (hin : ∀ (j p : Nat), l[j]? = some p → p < L.length) (hln : l.length ≤ 100000) (w : World) (hv : Sl w 1 locE v l) (hl : Wsl w (.slice (some ⟨b0, o0, none⟩) n cp) L) (hb : w.cell? ⟨bp, 0, none⟩ = some (.slice (some ⟨b0, o0, none⟩) n cp)) :
 Calls Tryd.prog 64 #[v, .func (.func 52) #[] #[.pointer (some ⟨bp, 0, none⟩)]] w fun e w' => (∃ r : Int, e = .returned (.int .i64 r) ∧ decide (0 ≤ r) = l.any (fun p => !ask2 L p)) ∧ ∃ r, w' = ext w r := by
 have HV := hid hv
 have HL := hid hl
 have HB := hid hb
 have HIn := hid hin
 obtain ⟨a, c, rfl, hm, hq⟩ := hv
 clear hm hq hl hb hin
 go_enter Tryd.func64, Tryd.ntmps64
 go_wp2_with fail
 go_loopw [8] (fun i wr => ∃ j : Nat, j ≤ l.length ∧ i = .int .i64 j ∧ Hid ((l.take j).any (fun p => !ask2 L p) = false) ∧ Hid (Ext w wr)) (fun i _ => l.length - (intOf i).toNat)
 case atStart => exact ⟨0, by omega, rfl, hid rfl, hid (Ext.refl _)⟩
 case round =>
 obtain ⟨j, hj, rfl, HA, HX⟩ := hrel
 by_cases hjl : j < l.length
 rotate_left
 ·have hd : decide (j < l.length) = false := decide_eq_false hjl
  obtain rfl : j = l.length := by omega
  rw [List.take_length] at HA
  go_wp2_with fail
  go_ret
  exact ⟨⟨-1, rfl, by rw [HA.out]; rfl⟩, HX.out.trans (by (show Ext _ _; repeat first | (with_reducible first | (refine xH ?_; assumption) | exact xR _ | refine xX ?_ _ | refine xA ?_ _) | refine xD ?_ | refine xN ?_ _ | exact xR _))⟩
 have hd : decide (j < l.length) = true := decide_eq_true hjl
 have hji : (j : Int) < (l.length : Int) := by omega
 obtain ⟨p, hp⟩ : ∃ p, l[j]? = some p := ⟨_, List.getElem?_eq_getElem hjl⟩
 have HP := hid hp
 obtain ⟨_, bm, om, hab, hbm, hcm⟩ := Sl.at (HV.out.of locE_len HX.out) hp
 subst hab
 have k0 := hcm 0 (by omega)
 simp [locE] at k0
 have hpl := HIn.out j p hp
 obtain ⟨⟨x1, x2, x3⟩, hx⟩ : ∃ x, L[p]? = some x := ⟨_, List.getElem?_eq_getElem hpl⟩
 have HXx := hid hx
 clear hcm hp hx hpl
 cases hq : ask2 L p
 ·have HQ := hid hq
  clear hq
  go_wp2_with fail
  refine (clo2_any L b0 o0 n cp bp p x1 x2 x3 HXx.out _ (HL.out.of wdE_len (HX.out.trans (by (show Ext _ _; repeat first | (with_reducible first | (refine xH ?_; assumption) | exact xR _ | refine xX ?_ _ | refine xA ?_ _) | refine xD ?_ | refine xN ?_ _ | exact xR _)))) ((HX.out.trans (by (show Ext _ _; repeat first | (with_reducible first | (refine xH ?_; assumption) | exact xR _ | refine xX ?_ _ | refine xA ?_ _) | refine xD ?_ | refine xN ?_ _ | exact xR _))).cell HB.out)).mono ?_
  rintro e w' ⟨rfl, r1, rfl⟩
  rw [HQ.out]
  go_wp2_with fail
  go_ret
  exact ⟨⟨j, rfl, by rw [any_found HP.out (by rw [HQ.out]; rfl)]; exact decide_eq_true (by omega)⟩, HX.out.trans (by (show Ext _ _; repeat first | (with_reducible first | (refine xH ?_; assumption) | exact xR _ | refine xX ?_ _ | refine xA ?_ _) | refine xD ?_ | refine xN ?_ _ | exact xR _))⟩
 ·have HQ := hid hq
  clear hq
  go_wp2_with fail
  refine (clo2_any L b0 o0 n cp bp p x1 x2 x3 HXx.out _ (HL.out.of wdE_len (HX.out.trans (by (show Ext _ _; repeat first | (with_reducible first | (refine xH ?_; assumption) | exact xR _ | refine xX ?_ _ | refine xA ?_ _) | refine xD ?_ | refine xN ?_ _ | exact xR _)))) ((HX.out.trans (by (show Ext _ _; repeat first | (with_reducible first | (refine xH ?_; assumption) | exact xR _ | refine xX ?_ _ | refine xA ?_ _) | refine xD ?_ | refine xN ?_ _ | exact xR _))).cell HB.out)).mono ?_
  rintro e w' ⟨rfl, r1, rfl⟩
  rw [HQ.out]
  go_wp2_with fail
  go_roundw
  case rel => exact ⟨j + 1, by omega, by go_num, hid (any_take HP.out (by rw [HQ.out]; rfl) HA.out), hid (HX.out.trans (by (show Ext _ _; repeat first | (with_reducible first | (refine xH ?_; assumption) | exact xR _ | refine xX ?_ _ | refine xA ?_ _) | refine xD ?_ | refine xN ?_ _ | exact xR _)))⟩
  case measure => simp [intOf]; omega
set_option maxHeartbeats 400000 in
theorem cont2_any (L : List Wd) (b0 o0 n cp bp : Nat) (l : List Nat) (v : Value) (hin : ∀ (j p : Nat), l[j]? = some p → p < L.length) (hln : l.length ≤ 100000) (w : World) (hv : Sl w 1 locE v l) (hl : Wsl w (.slice (some ⟨b0, o0, none⟩) n cp) L) (hb : w.cell? ⟨bp, 0, none⟩ = some (.slice (some ⟨b0, o0, none⟩) n cp)) :
 Calls Tryd.prog 50 #[v, .func (.func 52) #[] #[.pointer (some ⟨bp, 0, none⟩)]] w fun e w' => e = .returned (.bool (l.any (fun p => !ask2 L p))) ∧ ∃ r, w' = ext w r := by
 have HV := hid hv
 have HL := hid hl
 have HB := hid hb
 have HIn := hid hin
 clear hv hl hb hin
 go_enter Tryd.func50, Tryd.ntmps50
 go_wp2_with fail
 refine (idx2_any L b0 o0 n cp bp l _ HIn.out hln _ (HV.out.of locE_len (by (show Ext _ _; repeat first | (with_reducible first | (refine xH ?_; assumption) | exact xR _ | refine xX ?_ _ | refine xA ?_ _) | refine xD ?_ | refine xN ?_ _ | exact xR _))) (HL.out.of wdE_len (by (show Ext _ _; repeat first | (with_reducible first | (refine xH ?_; assumption) | exact xR _ | refine xX ?_ _ | refine xA ?_ _) | refine xD ?_ | refine xN ?_ _ | exact xR _))) ((show Ext w _ by (show Ext _ _; repeat first | (with_reducible first | (refine xH ?_; assumption) | exact xR _ | refine xX ?_ _ | refine xA ?_ _) | refine xD ?_ | refine xN ?_ _ | exact xR _)).cell HB.out)).mono ?_
 rintro e w' ⟨⟨r, rfl, hr⟩, r1, rfl⟩
 have HRr := hid hr
 clear hr
 go_wp2_with fail
 go_ret
 exact ⟨ret_bool HRr.out, by (show Ext _ _; repeat first | (with_reducible first | (refine xH ?_; assumption) | exact xR _ | refine xX ?_ _ | refine xA ?_ _) | refine xD ?_ | refine xN ?_ _ | exact xR _)⟩
set_option maxHeartbeats 400000 in
theorem clo3_any (L : List Wd) (b0 o0 n cp bp p : Nat) (x1 x2 x3 : Int) (hx : L[p]? = some (x1, x2, x3)) (w : World) (hl : Wsl w (.slice (some ⟨b0, o0, none⟩) n cp) L) (hb : w.cell? ⟨bp, 0, none⟩ = some (.slice (some ⟨b0, o0, none⟩) n cp)) :
 Calls Tryd.prog 53 #[.int .i64 p, .pointer (some ⟨bp, 0, none⟩)] w fun e w' => e = .returned (.bool (!ask3 L p)) ∧ ∃ r, w' = ext w r := by
 have HR := hid (show ask3 L p = (wdB (x1, x2, x3) (0, 0, 0)) by unfold ask3; rw [hx])
 obtain ⟨hn, b5, o5, hab, hb5, hc5⟩ := Sl.at hl hx
 cases hab
 have hp : p < n := by rw [hn]; exact (List.getElem?_eq_some_iff.1 hx).1
 have hpi : (p : Int) < (n : Int) := by omega
 have q0 := hc5 0 (by omega)
 have q1 := hc5 1 (by omega)
 have q2 := hc5 2 (by omega)
 simp [wdE] at q0 q1 q2
 have hbl : bp < w.heap.size := World.block_lt_of_cell? w _ hb
 clear hn hc5 hx hl hp
 have hne := neq_word x1 x2 x3 0 0 0
 have hga := eq_guard_word
 go_enter Tryd.func53, Tryd.ntmps53
 go_wp2_with fail
 go_ret
 exact ⟨ret_bool (by rw [HR.out]), by (show Ext _ _; repeat first | (with_reducible first | (refine xH ?_; assumption) | exact xR _ | refine xX ?_ _ | refine xA ?_ _) | refine xD ?_ | refine xN ?_ _ | exact xR _)⟩
set_option maxHeartbeats 1000000 in
theorem idx3_any (L : List Wd) (b0 o0 n cp bp : Nat) (l : List Nat) (v : Value) (hin : ∀ (j p : Nat), l[j]? = some p → p < L.length) (hln : l.length ≤ 100000) (w : World) (hv : Sl w 1 locE v l) (hl : Wsl w (.slice (some ⟨b0, o0, none⟩) n cp) L) (hb : w.cell? ⟨bp, 0, none⟩ = some (.slice (some ⟨b0, o0, none⟩) n cp)) :
 Calls Tryd.prog 64 #[v, .func (.func 53) #[] #[.pointer (some ⟨bp, 0, none⟩)]] w fun e w' => (∃ r : Int, e = .returned (.int .i64 r) ∧ decide (0 ≤ r) = l.any (fun p => !ask3 L p)) ∧ ∃ r, w' = ext w r := by
 have HV := hid hv
 have HL := hid hl
 have HB := hid hb
 have HIn := hid hin
 obtain ⟨a, c, rfl, hm, hq⟩ := hv
 clear hm hq hl hb hin
 go_enter Tryd.func64, Tryd.ntmps64
 go_wp2_with fail
 go_loopw [8] (fun i wr => ∃ j : Nat, j ≤ l.length ∧ i = .int .i64 j ∧ Hid ((l.take j).any (fun p => !ask3 L p) = false) ∧ Hid (Ext w wr)) (fun i _ => l.length - (intOf i).toNat)
 case atStart => exact ⟨0, by omega, rfl, hid rfl, hid (Ext.refl _)⟩
 case round =>
 obtain ⟨j, hj, rfl, HA, HX⟩ := hrel
 by_cases hjl : j < l.length
 rotate_left
 ·have hd : decide (j < l.length) = false := decide_eq_false hjl
  obtain rfl : j = l.length := by omega
  rw [List.take_length] at HA
  go_wp2_with fail
  go_ret
  exact ⟨⟨-1, rfl, by rw [HA.out]; rfl⟩, HX.out.trans (by (show Ext _ _; repeat first | (with_reducible first | (refine xH ?_; assumption) | exact xR _ | refine xX ?_ _ | refine xA ?_ _) | refine xD ?_ | refine xN ?_ _ | exact xR _))⟩
 have hd : decide (j < l.length) = true := decide_eq_true hjl
 have hji : (j : Int) < (l.length : Int) := by omega
 obtain ⟨p, hp⟩ : ∃ p, l[j]? = some p := ⟨_, List.getElem?_eq_getElem hjl⟩
 have HP := hid hp
 obtain ⟨_, bm, om, hab, hbm, hcm⟩ := Sl.at (HV.out.of locE_len HX.out) hp
 subst hab
 have k0 := hcm 0 (by omega)
 simp [locE] at k0
 have hpl := HIn.out j p hp
 obtain ⟨⟨x1, x2, x3⟩, hx⟩ : ∃ x, L[p]? = some x := ⟨_, List.getElem?_eq_getElem hpl⟩
 have HXx := hid hx
 clear hcm hp hx hpl
 cases hq : ask3 L p
 ·have HQ := hid hq
  clear hq
  go_wp2_with fail
  refine (clo3_any L b0 o0 n cp bp p x1 x2 x3 HXx.out _ (HL.out.of wdE_len (HX.out.trans (by (show Ext _ _; repeat first | (with_reducible first | (refine xH ?_; assumption) | exact xR _ | refine xX ?_ _ | refine xA ?_ _) | refine xD ?_ | refine xN ?_ _ | exact xR _)))) ((HX.out.trans (by (show Ext _ _; repeat first | (with_reducible first | (refine xH ?_; assumption) | exact xR _ | refine xX ?_ _ | refine xA ?_ _) | refine xD ?_ | refine xN ?_ _ | exact xR _))).cell HB.out)).mono ?_
  rintro e w' ⟨rfl, r1, rfl⟩
  rw [HQ.out]
  go_wp2_with fail
  go_ret
  exact ⟨⟨j, rfl, by rw [any_found HP.out (by rw [HQ.out]; rfl)]; exact decide_eq_true (by omega)⟩, HX.out.trans (by (show Ext _ _; repeat first | (with_reducible first | (refine xH ?_; assumption) | exact xR _ | refine xX ?_ _ | refine xA ?_ _) | refine xD ?_ | refine xN ?_ _ | exact xR _))⟩
 ·have HQ := hid hq
  clear hq
  go_wp2_with fail
  refine (clo3_any L b0 o0 n cp bp p x1 x2 x3 HXx.out _ (HL.out.of wdE_len (HX.out.trans (by (show Ext _ _; repeat first | (with_reducible first | (refine xH ?_; assumption) | exact xR _ | refine xX ?_ _ | refine xA ?_ _) | refine xD ?_ | refine xN ?_ _ | exact xR _)))) ((HX.out.trans (by (show Ext _ _; repeat first | (with_reducible first | (refine xH ?_; assumption) | exact xR _ | refine xX ?_ _ | refine xA ?_ _) | refine xD ?_ | refine xN ?_ _ | exact xR _))).cell HB.out)).mono ?_
  rintro e w' ⟨rfl, r1, rfl⟩
  rw [HQ.out]
  go_wp2_with fail
  go_roundw
  case rel => exact ⟨j + 1, by omega, by go_num, hid (any_take HP.out (by rw [HQ.out]; rfl) HA.out), hid (HX.out.trans (by (show Ext _ _; repeat first | (with_reducible first | (refine xH ?_; assumption) | exact xR _ | refine xX ?_ _ | refine xA ?_ _) | refine xD ?_ | refine xN ?_ _ | exact xR _)))⟩
  case measure => simp [intOf]; omega
set_option maxHeartbeats 400000 in
theorem cont3_any (L : List Wd) (b0 o0 n cp bp : Nat) (l : List Nat) (v : Value) (hin : ∀ (j p : Nat), l[j]? = some p → p < L.length) (hln : l.length ≤ 100000) (w : World) (hv : Sl w 1 locE v l) (hl : Wsl w (.slice (some ⟨b0, o0, none⟩) n cp) L) (hb : w.cell? ⟨bp, 0, none⟩ = some (.slice (some ⟨b0, o0, none⟩) n cp)) :
 Calls Tryd.prog 50 #[v, .func (.func 53) #[] #[.pointer (some ⟨bp, 0, none⟩)]] w fun e w' => e = .returned (.bool (l.any (fun p => !ask3 L p))) ∧ ∃ r, w' = ext w r := by
 have HV := hid hv
 have HL := hid hl
 have HB := hid hb
 have HIn := hid hin
 clear hv hl hb hin
 go_enter Tryd.func50, Tryd.ntmps50
 go_wp2_with fail
 refine (idx3_any L b0 o0 n cp bp l _ HIn.out hln _ (HV.out.of locE_len (by (show Ext _ _; repeat first | (with_reducible first | (refine xH ?_; assumption) | exact xR _ | refine xX ?_ _ | refine xA ?_ _) | refine xD ?_ | refine xN ?_ _ | exact xR _))) (HL.out.of wdE_len (by (show Ext _ _; repeat first | (with_reducible first | (refine xH ?_; assumption) | exact xR _ | refine xX ?_ _ | refine xA ?_ _) | refine xD ?_ | refine xN ?_ _ | exact xR _))) ((show Ext w _ by (show Ext _ _; repeat first | (with_reducible first | (refine xH ?_; assumption) | exact xR _ | refine xX ?_ _ | refine xA ?_ _) | refine xD ?_ | refine xN ?_ _ | exact xR _)).cell HB.out)).mono ?_
 rintro e w' ⟨⟨r, rfl, hr⟩, r1, rfl⟩
 have HRr := hid hr
 clear hr
 go_wp2_with fail
 go_ret
 exact ⟨ret_bool HRr.out, by (show Ext _ _; repeat first | (with_reducible first | (refine xH ?_; assumption) | exact xR _ | refine xX ?_ _ | refine xA ?_ _) | refine xD ?_ | refine xN ?_ _ | exact xR _)⟩
set_option maxRecDepth 100000 in
set_option maxHeartbeats 4000000 in
theorem rclean_any (t c b : Int) (L : List Wd) (lv : Value) (hll : L.length ≤ 10000) (w : World) (hs : Szs w) (hl : Wsl w lv L) :
 Calls Tryd.prog 20 #[.agg #[.int .i64 t, .int .i64 c, .int .i64 b], lv] w fun y w' => y = .returned (.bool (cleanN t c b L)) ∧ ∃ r, w' = ext w r := by
 have HS := hid hs
 have HL := hid hl
 obtain ⟨a, cp, rfl, ⟨_, hcap⟩, hq⟩ := hl
 clear hq hs
 by_cases h1 : checkN t c b = 0
 rotate_left
 ·have HR := hid (show cleanN t c b L = false by unfold cleanN; rw [if_pos (.inl h1)])
  have hb : (checkN t c b != 0) = true := by simpa using h1
  clear h1
  go_enter Tryd.func20, Tryd.ntmps20
  go_upto_region 1 with fail
  generalize hU : World.alloc _ _ = U
  have HEU := hid (show Ext w U by rw [← hU]; (show Ext _ _; repeat first | (with_reducible first | (refine xH ?_; assumption) | exact xR _ | refine xX ?_ _ | refine xA ?_ _) | refine xD ?_ | refine xN ?_ _ | exact xR _))
  have HBl := hid (show Blk U w.heap.size [.int .i64 t, .int .i64 c, .int .i64 b] by rw [← hU]; (show Blk _ _ _; repeat first | (with_reducible first | (refine xH ?_; assumption) | refine bD ?_ | refine bX ?_ _) | (with_reducible refine bN _ _ rfl ?_; first | with_reducible rfl | (simp; done)) | (with_reducible first | refine bA ?_ _ | assumption | apply bS) | (with_reducible refine bO ?_ ?_; first | omega | (simp; omega)) | (show List.set _ _ _ = _; exact rfl) | (show _ < List.length _; simp; done)))
  clear hU
  refine wp_region_held_drew (S := fun w' => w'.cell? ⟨w.heap.size, 0, none⟩ = some (.int .i64 t) ∧ w'.cell? ⟨w.heap.size, 1, none⟩ = some (.int .i64 c) ∧ w'.cell? ⟨w.heap.size, 2, none⟩ = some (.int .i64 b)) (by kernel_rfl) (by exact (HBl.out.of (show Ext U _ by (show Ext _ _; repeat with_reducible first | (refine xH ?_; assumption) | exact xR _ | refine xX ?_ _ | refine xA ?_ _ | refine xD ?_ | refine xS ?_ (by (try dsimp only); first | omega | (simp; done) | (simp; omega)) _))).three) (fun hHeld => ?_)
  refine take_met 0 (oi := ⟨_, _, _, _, _, _⟩) (v := ?_) (by kernel_rfl) rfl (by rfl) (fun _ _ _ h => h) (by assumption) ?_ ?_
  rotate_left 1
  ·intro w hSw
   try dsimp only at hSw
   go_simp
   try with_reducible rfl
  (try simp only [Act.put, pA, pB, pC])
  refine take_only 1 (oi := ⟨_, _, _, _, _, _⟩) (by kernel_rfl) rfl (fun K hK => ?_)
  go_simp
  first
   | (go_at_call 25; refine (check_any t c b _ (HS.out.of (HEU.out.trans (by (show Ext _ _; repeat first | (with_reducible first | (refine xH ?_; assumption) | exact xR _ | refine xX ?_ _ | refine xA ?_ _) | refine xD ?_ | refine xN ?_ _ | exact xR _))))).mono ?_; rintro e w' ⟨rfl, r1, rfl⟩)
  have hOld := hHeld
  clear hHeld
  refine hK.out _ _ (by exact (HBl.out.of (show Ext U _ by (show Ext _ _; repeat with_reducible first | (refine xH ?_; assumption) | exact xR _ | refine xX ?_ _ | refine xA ?_ _ | refine xD ?_ | refine xS ?_ (by (try dsimp only); first | omega | (simp; done) | (simp; omega)) _))).three) (fun hHeld => ?_)
  clear hOld hK K
  (try simp only [Act.put, pA, pB, pC])
  refine take_met 2 (oi := ⟨_, _, _, _, _, _⟩) (v := ?_) (by kernel_rfl) rfl (by rfl) (fun _ _ _ h => h) (by assumption) ?_ ?_
  rotate_left 1
  ·intro w hSw
   try dsimp only at hSw
   go_simp
   try with_reducible rfl
  (try simp only [Act.put, pA, pB, pC])
  refine take_met 3 (oi := ⟨_, _, _, _, _, _⟩) (v := ?_) (by kernel_rfl) rfl (by rfl) (fun _ _ _ h => h) (by assumption) ?_ ?_
  rotate_left 1
  ·intro w hSw
   try dsimp only at hSw
   go_simp
   try with_reducible rfl
  (try simp only [Act.put, pA, pB, pC])
  refine take_unmet 4 (oi := ⟨_, _, _, _, _, _⟩) (by kernel_rfl) rfl (by rfl) (fun _ _ _ h => h) (by assumption) ?_
  (try simp only [Act.put, pA, pB, pC])
  refine take_unmet 5 (oi := ⟨_, _, _, _, _, _⟩) (by kernel_rfl) rfl (by rfl) (fun _ _ _ h => h) (by assumption) ?_
  (try simp only [Act.put, pA, pB, pC])
  refine take_unmet 6 (oi := ⟨_, _, _, _, _, _⟩) (by kernel_rfl) rfl (by rfl) (fun _ _ _ h => h) (by assumption) ?_
  (try simp only [Act.put, pA, pB, pC])
  refine take_unmet 7 (oi := ⟨_, _, _, _, _, _⟩) (by kernel_rfl) rfl (by rfl) (fun _ _ _ h => h) (by assumption) ?_
  (try simp only [Act.put, pA, pB, pC])
  refine take_unmet 8 (oi := ⟨_, _, _, _, _, _⟩) (by kernel_rfl) rfl (by rfl) (fun _ _ _ h => h) (by assumption) ?_
  (try simp only [Act.put, pA, pB, pC])
  refine take_met 9 (oi := ⟨_, _, _, _, _, _⟩) (v := ?_) (by kernel_rfl) rfl (by rfl) (fun _ _ _ h => h) (by assumption) ?_ ?_
  rotate_left 1
  ·intro w hSw
   try dsimp only at hSw
   go_simp
   try with_reducible rfl
  (try simp only [Act.put, pA, pB, pC])
  refine wpAnyH_done (by kernel_rfl) ?_ _
  go_wp2_with fail
  go_ret
  exact ⟨ret_bool HR.out.symm, HEU.out.trans (by (show Ext _ _; repeat first | (with_reducible first | (refine xH ?_; assumption) | exact xR _ | refine xX ?_ _ | refine xA ?_ _) | refine xD ?_ | refine xN ?_ _ | exact xR _))⟩
 have H1 := hid h1
 have hr : rightN t c b = true := by unfold rightN; rw [h1]; rfl
 have HRt := hid hr
 obtain ⟨n, hn⟩ := Int.eq_ofNat_of_zero_le (size_le t c b).1
 have HN := hid hn
 have hn4 := (size_le t c b).2
 clear h1 hr
 go_enter Tryd.func20, Tryd.ntmps20
 go_upto_region 1 with fail
 generalize hU : World.alloc _ _ = U
 have HEU := hid (show Ext w U by rw [← hU]; (show Ext _ _; repeat first | (with_reducible first | (refine xH ?_; assumption) | exact xR _ | refine xX ?_ _ | refine xA ?_ _) | refine xD ?_ | refine xN ?_ _ | exact xR _))
 have HBl := hid (show Blk U w.heap.size [.int .i64 t, .int .i64 c, .int .i64 b] by rw [← hU]; (show Blk _ _ _; repeat first | (with_reducible first | (refine xH ?_; assumption) | refine bD ?_ | refine bX ?_ _) | (with_reducible refine bN _ _ rfl ?_; first | with_reducible rfl | (simp; done)) | (with_reducible first | refine bA ?_ _ | assumption | apply bS) | (with_reducible refine bO ?_ ?_; first | omega | (simp; omega)) | (show List.set _ _ _ = _; exact rfl) | (show _ < List.length _; simp; done)))
 have HBw := hid (show Blk U (w.heap.size + 1) [.slice a L.length cp] by rw [← hU]; (show Blk _ _ _; repeat first | (with_reducible first | (refine xH ?_; assumption) | refine bD ?_ | refine bX ?_ _) | (with_reducible refine bN _ _ rfl ?_; first | with_reducible rfl | (simp; done)) | (with_reducible first | refine bA ?_ _ | assumption | apply bS) | (with_reducible refine bO ?_ ?_; first | omega | (simp; omega)) | (show List.set _ _ _ = _; exact rfl) | (show _ < List.length _; simp; done)))
 generalize hbp : w.heap.size + 1 = bp at *
 clear hU
 by_cases h2 : L.length < n
 ·have HR := hid (show cleanN t c b L = false by unfold cleanN; rw [if_pos (.inr (by rw [HN.out]; omega))])
  have hd : decide (L.length < n) = true := decide_eq_true h2
  clear hn hn4
  have HKp_ := hid (show ∀ w', Ext U w' → (fun w' => (w'.cell? ⟨w.heap.size, 0, none⟩ = some (.int .i64 t) ∧ w'.cell? ⟨w.heap.size, 1, none⟩ = some (.int .i64 c) ∧ w'.cell? ⟨w.heap.size, 2, none⟩ = some (.int .i64 b)) ∧ w'.cell? ⟨bp, 0, none⟩ = some (.slice a L.length cp)) w' from fun w' hE_ => ⟨(HBl.out.of hE_).three, (HBw.out.of hE_).2.2 0 _ rfl⟩)
  refine wp_region_held_drew (S := fun w' => (w'.cell? ⟨w.heap.size, 0, none⟩ = some (.int .i64 t) ∧ w'.cell? ⟨w.heap.size, 1, none⟩ = some (.int .i64 c) ∧ w'.cell? ⟨w.heap.size, 2, none⟩ = some (.int .i64 b)) ∧ w'.cell? ⟨bp, 0, none⟩ = some (.slice a L.length cp)) (by kernel_rfl) (by exact HKp_.out _ (by (show Ext _ _; repeat with_reducible first | (refine xH ?_; assumption) | exact xR _ | refine xX ?_ _ | refine xA ?_ _ | refine xD ?_ | refine xS ?_ (by (try dsimp only); first | omega | (simp; done) | (simp; omega)) _))) (fun hHeld => ?_)
  refine take_met 0 (oi := ⟨_, _, _, _, _, _⟩) (v := ?_) (by kernel_rfl) rfl (by rfl) (fun _ _ _ h => h) (by assumption) ?_ ?_
  rotate_left 1
  ·intro w hSw
   try dsimp only at hSw
   go_simp
   try with_reducible rfl
  (try simp only [Act.put, pA, pB, pC])
  refine take_only 1 (oi := ⟨_, _, _, _, _, _⟩) (by kernel_rfl) rfl (fun K hK => ?_)
  go_simp
  first
   | (go_at_call 25; refine (check_any t c b _ (HS.out.of (HEU.out.trans (by (show Ext _ _; repeat first | (with_reducible first | (refine xH ?_; assumption) | exact xR _ | refine xX ?_ _ | refine xA ?_ _) | refine xD ?_ | refine xN ?_ _ | exact xR _))))).mono ?_; rintro e w' ⟨rfl, r1, rfl⟩; rw [H1.out])
  have hOld := hHeld
  clear hHeld
  refine hK.out _ _ (by exact HKp_.out _ (by (show Ext _ _; repeat with_reducible first | (refine xH ?_; assumption) | exact xR _ | refine xX ?_ _ | refine xA ?_ _ | refine xD ?_ | refine xS ?_ (by (try dsimp only); first | omega | (simp; done) | (simp; omega)) _))) (fun hHeld => ?_)
  clear hOld hK K
  (try simp only [Act.put, pA, pB, pC])
  refine take_met 2 (oi := ⟨_, _, _, _, _, _⟩) (v := ?_) (by kernel_rfl) rfl (by rfl) (fun _ _ _ h => h) (by assumption) ?_ ?_
  rotate_left 1
  ·intro w hSw
   try dsimp only at hSw
   go_simp
   try with_reducible rfl
  (try simp only [Act.put, pA, pB, pC])
  refine take_met 3 (oi := ⟨_, _, _, _, _, _⟩) (v := ?_) (by kernel_rfl) rfl (by rfl) (fun _ _ _ h => h) (by assumption) ?_ ?_
  rotate_left 1
  ·intro w hSw
   try dsimp only at hSw
   go_simp
   try with_reducible rfl
  (try simp only [Act.put, pA, pB, pC])
  refine take_met 4 (oi := ⟨_, _, _, _, _, _⟩) (v := ?_) (by kernel_rfl) rfl (by rfl) (fun _ _ _ h => h) (by assumption) ?_ ?_
  rotate_left 1
  ·intro w hSw
   try dsimp only at hSw
   go_simp
   try with_reducible rfl
  (try simp only [Act.put, pA, pB, pC])
  refine take_met 5 (oi := ⟨_, _, _, _, _, _⟩) (v := ?_) (by kernel_rfl) rfl (by rfl) (fun _ _ _ h => h) (by assumption) ?_ ?_
  rotate_left 1
  ·intro w hSw
   try dsimp only at hSw
   go_simp
   try with_reducible rfl
  (try simp only [Act.put, pA, pB, pC])
  refine take_met 6 (oi := ⟨_, _, _, _, _, _⟩) (v := ?_) (by kernel_rfl) rfl (by rfl) (fun _ _ _ h => h) (by assumption) ?_ ?_
  rotate_left 1
  ·intro w hSw
   try dsimp only at hSw
   go_simp
   try with_reducible rfl
  (try simp only [Act.put, pA, pB, pC])
  refine take_only 7 (oi := ⟨_, _, _, _, _, _⟩) (by kernel_rfl) rfl (fun K hK => ?_)
  go_simp
  first
   | (go_at_call 14; refine (size_any t c b _ (HS.out.of (HEU.out.trans (by (show Ext _ _; repeat first | (with_reducible first | (refine xH ?_; assumption) | exact xR _ | refine xX ?_ _ | refine xA ?_ _) | refine xD ?_ | refine xN ?_ _ | exact xR _))))).mono ?_; rintro e w' ⟨rfl, r2, rfl⟩; rw [HN.out])
  have hOld := hHeld
  clear hHeld
  refine hK.out _ _ (by exact HKp_.out _ (by (show Ext _ _; repeat with_reducible first | (refine xH ?_; assumption) | exact xR _ | refine xX ?_ _ | refine xA ?_ _ | refine xD ?_ | refine xS ?_ (by (try dsimp only); first | omega | (simp; done) | (simp; omega)) _))) (fun hHeld => ?_)
  clear hOld hK K
  (try simp only [Act.put, pA, pB, pC])
  refine take_met 8 (oi := ⟨_, _, _, _, _, _⟩) (v := ?_) (by kernel_rfl) rfl (by rfl) (fun _ _ _ h => h) (by assumption) ?_ ?_
  rotate_left 1
  ·intro w hSw
   try dsimp only at hSw
   go_simp
   try with_reducible rfl
  (try simp only [Act.put, pA, pB, pC])
  refine take_met 9 (oi := ⟨_, _, _, _, _, _⟩) (v := ?_) (by kernel_rfl) rfl (by rfl) (fun _ _ _ h => h) (by assumption) ?_ ?_
  rotate_left 1
  ·intro w hSw
   try dsimp only at hSw
   go_simp
   try with_reducible rfl
  (try simp only [Act.put, pA, pB, pC])
  refine wpAnyH_done (by kernel_rfl) ?_ _
  go_wp2_with fail
  go_ret
  exact ⟨ret_bool HR.out.symm, HEU.out.trans (by (show Ext _ _; repeat first | (with_reducible first | (refine xH ?_; assumption) | exact xR _ | refine xX ?_ _ | refine xA ?_ _) | refine xD ?_ | refine xN ?_ _ | exact xR _))⟩
 have hd : decide (L.length < n) = false := decide_eq_false h2
 have HR := hid (show cleanN t c b L = (!(maysL t c b).any (fun p => !ask1 L p) && (!(statsL t c b).any (fun p => !ask2 L p) && !(ownsL t c b).any (fun p => !ask3 L p))) by
  unfold cleanN; rw [if_neg (by rintro (h | h); exact h H1.out; rw [HN.out] at h; omega)]; exact cleanW_any ..)
 have hn8 : 8 ≤ n := by have h7 := (from_le7 (right_lok HRt.out).1).2.2.2.2; unfold sizeN at hn; rw [if_pos HRt.out] at hn; omega
 have HMl := hid (show ∀ (j p : Nat), (maysL t c b)[j]? = some p → p < L.length by intro j p hp; have := (maysL_lt (List.mem_of_getElem? hp)).2; omega)
 have HSl := hid (show ∀ (j p : Nat), (statsL t c b)[j]? = some p → p < L.length by intro j p hp; have := statsL_lt HRt.out (List.mem_of_getElem? hp); omega)
 have HOl := hid (show ∀ (j p : Nat), (ownsL t c b)[j]? = some p → p < L.length by intro j p hp; have := ownsL_lt HRt.out (List.mem_of_getElem? hp); omega)
 obtain ⟨b0, o0, rfl⟩ : ∃ b0 o0, a = some ⟨b0, o0, none⟩ := by
  obtain ⟨_, b0, o0, g1, g2, _⟩ := Sl.at HL.out (List.getElem?_eq_getElem (show 0 < L.length by omega))
  exact ⟨b0, o0, g1⟩
 obtain ⟨c1, hc1⟩ : ∃ x, x = (maysL t c b).any (fun p => !ask1 L p) := ⟨_, rfl⟩
 obtain ⟨c2, hc2⟩ : ∃ x, x = (statsL t c b).any (fun p => !ask2 L p) := ⟨_, rfl⟩
 obtain ⟨c3, hc3⟩ : ∃ x, x = (ownsL t c b).any (fun p => !ask3 L p) := ⟨_, rfl⟩
 rw [← hc1, ← hc2, ← hc3] at HR
 have HC1 := hid hc1.symm
 have HC2 := hid hc2.symm
 have HC3 := hid hc3.symm
 have hk8 := (right_lok HRt.out).1
 have hm1 : (maysL t c b).length ≤ 100000 := by
  unfold maysL
  have := maysTo_len t c b (sizeN t c b).toNat
  omega
 have hm2 : (statsL t c b).length ≤ 100000 := by
  unfold statsL; rw [List.length_append, slotTo_len, blockTo_len]; have h1 := hk8.2.1; have h2 := hk8.2.2.2.2.2; omega
 have hm3 : (ownsL t c b).length ≤ 100000 := by
  unfold ownsL; rw [ownTo_len]; have h1 := hk8.2.1; omega
 clear hn hn4 h2 hc1 hc2 hc3 hk8
 have HKp_ := hid (show ∀ w', Ext U w' → (fun w' => (w'.cell? ⟨w.heap.size, 0, none⟩ = some (.int .i64 t) ∧ w'.cell? ⟨w.heap.size, 1, none⟩ = some (.int .i64 c) ∧ w'.cell? ⟨w.heap.size, 2, none⟩ = some (.int .i64 b)) ∧ w'.cell? ⟨bp, 0, none⟩ = some (.slice (some ⟨b0, o0, none⟩) L.length cp)) w' from fun w' hE_ => ⟨(HBl.out.of hE_).three, (HBw.out.of hE_).2.2 0 _ rfl⟩)
 refine wp_region_held_drew (S := fun w' => (w'.cell? ⟨w.heap.size, 0, none⟩ = some (.int .i64 t) ∧ w'.cell? ⟨w.heap.size, 1, none⟩ = some (.int .i64 c) ∧ w'.cell? ⟨w.heap.size, 2, none⟩ = some (.int .i64 b)) ∧ w'.cell? ⟨bp, 0, none⟩ = some (.slice (some ⟨b0, o0, none⟩) L.length cp)) (by kernel_rfl) (by exact HKp_.out _ (by (show Ext _ _; repeat with_reducible first | (refine xH ?_; assumption) | exact xR _ | refine xX ?_ _ | refine xA ?_ _ | refine xD ?_ | refine xS ?_ (by (try dsimp only); first | omega | (simp; done) | (simp; omega)) _))) (fun hHeld => ?_)
 refine take_met 0 (oi := ⟨_, _, _, _, _, _⟩) (v := ?_) (by kernel_rfl) rfl (by rfl) (fun _ _ _ h => h) (by assumption) ?_ ?_
 rotate_left 1
 ·intro w hSw
  try dsimp only at hSw
  go_simp
  try with_reducible rfl
 (try simp only [Act.put, pA, pB, pC])
 refine take_only 1 (oi := ⟨_, _, _, _, _, _⟩) (by kernel_rfl) rfl (fun K hK => ?_)
 go_simp
 first
  | (go_at_call 25; refine (check_any t c b _ (HS.out.of (HEU.out.trans (by (show Ext _ _; repeat first | (with_reducible first | (refine xH ?_; assumption) | exact xR _ | refine xX ?_ _ | refine xA ?_ _) | refine xD ?_ | refine xN ?_ _ | exact xR _))))).mono ?_; rintro e w' ⟨rfl, r1, rfl⟩; rw [H1.out])
 have hOld := hHeld
 clear hHeld
 refine hK.out _ _ (by exact HKp_.out _ (by (show Ext _ _; repeat with_reducible first | (refine xH ?_; assumption) | exact xR _ | refine xX ?_ _ | refine xA ?_ _ | refine xD ?_ | refine xS ?_ (by (try dsimp only); first | omega | (simp; done) | (simp; omega)) _))) (fun hHeld => ?_)
 clear hOld hK K
 (try simp only [Act.put, pA, pB, pC])
 refine take_met 2 (oi := ⟨_, _, _, _, _, _⟩) (v := ?_) (by kernel_rfl) rfl (by rfl) (fun _ _ _ h => h) (by assumption) ?_ ?_
 rotate_left 1
 ·intro w hSw
  try dsimp only at hSw
  go_simp
  try with_reducible rfl
 (try simp only [Act.put, pA, pB, pC])
 refine take_met 3 (oi := ⟨_, _, _, _, _, _⟩) (v := ?_) (by kernel_rfl) rfl (by rfl) (fun _ _ _ h => h) (by assumption) ?_ ?_
 rotate_left 1
 ·intro w hSw
  try dsimp only at hSw
  go_simp
  try with_reducible rfl
 (try simp only [Act.put, pA, pB, pC])
 refine take_met 4 (oi := ⟨_, _, _, _, _, _⟩) (v := ?_) (by kernel_rfl) rfl (by rfl) (fun _ _ _ h => h) (by assumption) ?_ ?_
 rotate_left 1
 ·intro w hSw
  try dsimp only at hSw
  go_simp
  try with_reducible rfl
 (try simp only [Act.put, pA, pB, pC])
 refine take_met 5 (oi := ⟨_, _, _, _, _, _⟩) (v := ?_) (by kernel_rfl) rfl (by rfl) (fun _ _ _ h => h) (by assumption) ?_ ?_
 rotate_left 1
 ·intro w hSw
  try dsimp only at hSw
  go_simp
  try with_reducible rfl
 (try simp only [Act.put, pA, pB, pC])
 refine take_met 6 (oi := ⟨_, _, _, _, _, _⟩) (v := ?_) (by kernel_rfl) rfl (by rfl) (fun _ _ _ h => h) (by assumption) ?_ ?_
 rotate_left 1
 ·intro w hSw
  try dsimp only at hSw
  go_simp
  try with_reducible rfl
 (try simp only [Act.put, pA, pB, pC])
 refine take_only 7 (oi := ⟨_, _, _, _, _, _⟩) (by kernel_rfl) rfl (fun K hK => ?_)
 go_simp
 first
  | (go_at_call 14; refine (size_any t c b _ (HS.out.of (HEU.out.trans (by (show Ext _ _; repeat first | (with_reducible first | (refine xH ?_; assumption) | exact xR _ | refine xX ?_ _ | refine xA ?_ _) | refine xD ?_ | refine xN ?_ _ | exact xR _))))).mono ?_; rintro e w' ⟨rfl, r2, rfl⟩; rw [HN.out])
 have hOld := hHeld
 clear hHeld
 refine hK.out _ _ (by exact HKp_.out _ (by (show Ext _ _; repeat with_reducible first | (refine xH ?_; assumption) | exact xR _ | refine xX ?_ _ | refine xA ?_ _ | refine xD ?_ | refine xS ?_ (by (try dsimp only); first | omega | (simp; done) | (simp; omega)) _))) (fun hHeld => ?_)
 clear hOld hK K
 (try simp only [Act.put, pA, pB, pC])
 refine take_met 8 (oi := ⟨_, _, _, _, _, _⟩) (v := ?_) (by kernel_rfl) rfl (by rfl) (fun _ _ _ h => h) (by assumption) ?_ ?_
 rotate_left 1
 ·intro w hSw
  try dsimp only at hSw
  go_simp
  try with_reducible rfl
 (try simp only [Act.put, pA, pB, pC])
 refine take_met 9 (oi := ⟨_, _, _, _, _, _⟩) (v := ?_) (by kernel_rfl) rfl (by rfl) (fun _ _ _ h => h) (by assumption) ?_ ?_
 rotate_left 1
 ·intro w hSw
  try dsimp only at hSw
  go_simp
  try with_reducible rfl
 (try simp only [Act.put, pA, pB, pC])
 refine wpAnyH_done (by kernel_rfl) ?_ _
 clear hHeld
 generalize hV : ext _ r2 = V
 have HEV := hid (show Ext U V by rw [← hV]; (show Ext _ _; repeat first | (with_reducible first | (refine xH ?_; assumption) | exact xR _ | refine xX ?_ _ | refine xA ?_ _) | refine xD ?_ | refine xN ?_ _ | exact xR _))
 have HEVw := hid (HEU.out.trans HEV.out)
 obtain ⟨l0, l1, l2⟩ := (HBl.out.of HEV.out).three
 have l4 := (HBl.out.of HEV.out).1
 have p0 := (HBw.out.of HEV.out).2.2 0 _ rfl
 have p1 := (HBw.out.of HEV.out).1
 clear hV
 have hcase : c1 = true ∨ (c1 = false ∧ c2 = true) ∨ (c1 = false ∧ c2 = false) := by cases c1 <;> cases c2 <;> simp
 rcases hcase with rfl | ⟨rfl, rfl⟩ | ⟨rfl, rfl⟩
 ·go_wp2_with fail
  refine (may25_any t c b _ (HS.out.of (HEVw.out.trans (by (show Ext _ _; repeat first | (with_reducible first | (refine xH ?_; assumption) | exact xR _ | refine xX ?_ _ | refine xA ?_ _) | refine xD ?_ | refine xN ?_ _ | exact xR _))))).mono ?_
  rintro e w' ⟨v1, rfl, ⟨r3, rfl⟩, hv1⟩
  have hS1 := Sl.of_own locE_len hv1
  clear hv1
  go_wp2_with fail
  refine (cont1_any L b0 o0 L.length cp bp (maysL t c b) _ HMl.out hm1 _ (hS1.of locE_len (by (show Ext _ _; repeat first | (with_reducible first | (refine xH ?_; assumption) | exact xR _ | refine xX ?_ _ | refine xA ?_ _) | refine xD ?_ | refine xN ?_ _ | exact xR _))) (HL.out.of wdE_len (HEVw.out.trans (by (show Ext _ _; repeat first | (with_reducible first | (refine xH ?_; assumption) | exact xR _ | refine xX ?_ _ | refine xA ?_ _) | refine xD ?_ | refine xN ?_ _ | exact xR _)))) ((show Ext V _ by (show Ext _ _; repeat first | (with_reducible first | (refine xH ?_; assumption) | exact xR _ | refine xX ?_ _ | refine xA ?_ _) | refine xD ?_ | refine xN ?_ _ | exact xR _)).cell p0)).mono ?_
  rintro e w' ⟨rfl, r4, rfl⟩
  rw [HC1.out]
  go_wp2_with fail
  go_ret
  exact ⟨ret_bool (by rw [HR.out]; rfl), HEVw.out.trans (by (show Ext _ _; repeat first | (with_reducible first | (refine xH ?_; assumption) | exact xR _ | refine xX ?_ _ | refine xA ?_ _) | refine xD ?_ | refine xN ?_ _ | exact xR _))⟩
 ·go_wp2_with fail
  refine (may25_any t c b _ (HS.out.of (HEVw.out.trans (by (show Ext _ _; repeat first | (with_reducible first | (refine xH ?_; assumption) | exact xR _ | refine xX ?_ _ | refine xA ?_ _) | refine xD ?_ | refine xN ?_ _ | exact xR _))))).mono ?_
  rintro e w' ⟨v1, rfl, ⟨r3, rfl⟩, hv1⟩
  have hS1 := Sl.of_own locE_len hv1
  clear hv1
  go_wp2_with fail
  refine (cont1_any L b0 o0 L.length cp bp (maysL t c b) _ HMl.out hm1 _ (hS1.of locE_len (by (show Ext _ _; repeat first | (with_reducible first | (refine xH ?_; assumption) | exact xR _ | refine xX ?_ _ | refine xA ?_ _) | refine xD ?_ | refine xN ?_ _ | exact xR _))) (HL.out.of wdE_len (HEVw.out.trans (by (show Ext _ _; repeat first | (with_reducible first | (refine xH ?_; assumption) | exact xR _ | refine xX ?_ _ | refine xA ?_ _) | refine xD ?_ | refine xN ?_ _ | exact xR _)))) ((show Ext V _ by (show Ext _ _; repeat first | (with_reducible first | (refine xH ?_; assumption) | exact xR _ | refine xX ?_ _ | refine xA ?_ _) | refine xD ?_ | refine xN ?_ _ | exact xR _)).cell p0)).mono ?_
  rintro e w' ⟨rfl, r4, rfl⟩
  rw [HC1.out]
  go_wp2_with fail
  refine (stats25_any t c b HRt.out _ (HS.out.of (HEVw.out.trans (by (show Ext _ _; repeat first | (with_reducible first | (refine xH ?_; assumption) | exact xR _ | refine xX ?_ _ | refine xA ?_ _) | refine xD ?_ | refine xN ?_ _ | exact xR _))))).mono ?_
  rintro e w' ⟨v2, rfl, ⟨r5, rfl⟩, hv2⟩
  have hS2 := Sl.of_own locE_len hv2
  clear hv2
  go_wp2_with fail
  refine (cont2_any L b0 o0 L.length cp bp (statsL t c b) _ HSl.out hm2 _ (hS2.of locE_len (by (show Ext _ _; repeat first | (with_reducible first | (refine xH ?_; assumption) | exact xR _ | refine xX ?_ _ | refine xA ?_ _) | refine xD ?_ | refine xN ?_ _ | exact xR _))) (HL.out.of wdE_len (HEVw.out.trans (by (show Ext _ _; repeat first | (with_reducible first | (refine xH ?_; assumption) | exact xR _ | refine xX ?_ _ | refine xA ?_ _) | refine xD ?_ | refine xN ?_ _ | exact xR _)))) ((show Ext V _ by (show Ext _ _; repeat first | (with_reducible first | (refine xH ?_; assumption) | exact xR _ | refine xX ?_ _ | refine xA ?_ _) | refine xD ?_ | refine xN ?_ _ | exact xR _)).cell p0)).mono ?_
  rintro e w' ⟨rfl, r6, rfl⟩
  rw [HC2.out]
  go_wp2_with fail
  go_ret
  exact ⟨ret_bool (by rw [HR.out]; rfl), HEVw.out.trans (by (show Ext _ _; repeat first | (with_reducible first | (refine xH ?_; assumption) | exact xR _ | refine xX ?_ _ | refine xA ?_ _) | refine xD ?_ | refine xN ?_ _ | exact xR _))⟩
 ·go_wp2_with fail
  refine (may25_any t c b _ (HS.out.of (HEVw.out.trans (by (show Ext _ _; repeat first | (with_reducible first | (refine xH ?_; assumption) | exact xR _ | refine xX ?_ _ | refine xA ?_ _) | refine xD ?_ | refine xN ?_ _ | exact xR _))))).mono ?_
  rintro e w' ⟨v1, rfl, ⟨r3, rfl⟩, hv1⟩
  have hS1 := Sl.of_own locE_len hv1
  clear hv1
  go_wp2_with fail
  refine (cont1_any L b0 o0 L.length cp bp (maysL t c b) _ HMl.out hm1 _ (hS1.of locE_len (by (show Ext _ _; repeat first | (with_reducible first | (refine xH ?_; assumption) | exact xR _ | refine xX ?_ _ | refine xA ?_ _) | refine xD ?_ | refine xN ?_ _ | exact xR _))) (HL.out.of wdE_len (HEVw.out.trans (by (show Ext _ _; repeat first | (with_reducible first | (refine xH ?_; assumption) | exact xR _ | refine xX ?_ _ | refine xA ?_ _) | refine xD ?_ | refine xN ?_ _ | exact xR _)))) ((show Ext V _ by (show Ext _ _; repeat first | (with_reducible first | (refine xH ?_; assumption) | exact xR _ | refine xX ?_ _ | refine xA ?_ _) | refine xD ?_ | refine xN ?_ _ | exact xR _)).cell p0)).mono ?_
  rintro e w' ⟨rfl, r4, rfl⟩
  rw [HC1.out]
  go_wp2_with fail
  refine (stats25_any t c b HRt.out _ (HS.out.of (HEVw.out.trans (by (show Ext _ _; repeat first | (with_reducible first | (refine xH ?_; assumption) | exact xR _ | refine xX ?_ _ | refine xA ?_ _) | refine xD ?_ | refine xN ?_ _ | exact xR _))))).mono ?_
  rintro e w' ⟨v2, rfl, ⟨r5, rfl⟩, hv2⟩
  have hS2 := Sl.of_own locE_len hv2
  clear hv2
  go_wp2_with fail
  refine (cont2_any L b0 o0 L.length cp bp (statsL t c b) _ HSl.out hm2 _ (hS2.of locE_len (by (show Ext _ _; repeat first | (with_reducible first | (refine xH ?_; assumption) | exact xR _ | refine xX ?_ _ | refine xA ?_ _) | refine xD ?_ | refine xN ?_ _ | exact xR _))) (HL.out.of wdE_len (HEVw.out.trans (by (show Ext _ _; repeat first | (with_reducible first | (refine xH ?_; assumption) | exact xR _ | refine xX ?_ _ | refine xA ?_ _) | refine xD ?_ | refine xN ?_ _ | exact xR _)))) ((show Ext V _ by (show Ext _ _; repeat first | (with_reducible first | (refine xH ?_; assumption) | exact xR _ | refine xX ?_ _ | refine xA ?_ _) | refine xD ?_ | refine xN ?_ _ | exact xR _)).cell p0)).mono ?_
  rintro e w' ⟨rfl, r6, rfl⟩
  rw [HC2.out]
  go_wp2_with fail
  refine (owns25_any t c b HRt.out _ (HS.out.of (HEVw.out.trans (by (show Ext _ _; repeat first | (with_reducible first | (refine xH ?_; assumption) | exact xR _ | refine xX ?_ _ | refine xA ?_ _) | refine xD ?_ | refine xN ?_ _ | exact xR _))))).mono ?_
  rintro e w' ⟨v3, rfl, ⟨r7, rfl⟩, hv3⟩
  have hS3 := Sl.of_own locE_len hv3
  clear hv3
  go_wp2_with fail
  refine (cont3_any L b0 o0 L.length cp bp (ownsL t c b) _ HOl.out hm3 _ (hS3.of locE_len (by (show Ext _ _; repeat first | (with_reducible first | (refine xH ?_; assumption) | exact xR _ | refine xX ?_ _ | refine xA ?_ _) | refine xD ?_ | refine xN ?_ _ | exact xR _))) (HL.out.of wdE_len (HEVw.out.trans (by (show Ext _ _; repeat first | (with_reducible first | (refine xH ?_; assumption) | exact xR _ | refine xX ?_ _ | refine xA ?_ _) | refine xD ?_ | refine xN ?_ _ | exact xR _)))) ((show Ext V _ by (show Ext _ _; repeat first | (with_reducible first | (refine xH ?_; assumption) | exact xR _ | refine xX ?_ _ | refine xA ?_ _) | refine xD ?_ | refine xN ?_ _ | exact xR _)).cell p0)).mono ?_
  rintro e w' ⟨rfl, r8, rfl⟩
  rw [HC3.out]
  go_wp2_with fail
  go_ret
  exact ⟨ret_bool (by rw [HR.out]; rfl), HEVw.out.trans (by (show Ext _ _; repeat first | (with_reducible first | (refine xH ?_; assumption) | exact xR _ | refine xX ?_ _ | refine xA ?_ _) | refine xD ?_ | refine xN ?_ _ | exact xR _))⟩
end Go.Proofs.YtdpbcfjfnclpiaaDoor
