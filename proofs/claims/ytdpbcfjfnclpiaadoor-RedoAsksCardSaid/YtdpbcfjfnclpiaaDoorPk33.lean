/- Walk of the reference's Next (simulcastref25), phase 1. -/
import Derived.Test.YtdpbcfjfnclpiaaDoorPk32
namespace Go.Proofs.YtdpbcfjfnclpiaaDoor
set_option linter.unusedSimpArgs false
set_option linter.unusedVariables false
open Go.RowKit
set_option maxRecDepth 100000 in
set_option maxHeartbeats 10000000 in
theorem rn1_any {w : World} {K : RK} {N : Nat} {kv sv : Value} {s : RS} {T B sl rm : Int} {ws : List Bool} {pv : Value} {ma qa oa : Option Addr} {mc qc oc : Nat} (hk : Kw w kv K T B sl rm (N : Int) ws pv ma qa oa mc qc oc) {la sa : Option Addr} {lc sc : Nat} (hs : Rv w sv s la sa lc sc)
 (hP : PlOk K N T B sl rm ws) (hI : RnOk K N s) (x y z : Int) (ok : Bool) (hg : WdOk (x, y, z)) (hph : s.ph = 1) (p : Nat) (hp : K.ms[s.i]? = some p) :
 Calls Tryd.prog 7 #[kv, sv, .agg #[.int .i64 x, .int .u32 y, .int .u32 z, .bool ok]] w (RPost w la sa (rNext K s (x, y, z))) := by
 have HK := hid hk
 have HS := hid hs
 have HPl := hid hP
 have HI := hid hI
 have HGk := hid hg
 have hkv := hk.val
 have hsv := hs.val
 clear hk hs hP hI hg
 subst hkv hsv
 have hib := HI.out.i
 obtain ⟨q, hqq⟩ : ∃ q, q = s.i + 1 := ⟨_, rfl⟩
 have hw1 : wrap64 ((s.i : Int) + 1) = (q : Int) := by rw [IntWalk.wrap64_in _ ⟨by omega, by omega⟩]; omega
 have HQ := hid hqq
 clear hqq hib
 have hgz := HGk.out.2.2
 dsimp only at hgz
 obtain ⟨hz1, hz2⟩ := hgz
 have HPp := hid hp
 obtain ⟨wh, hwh⟩ : ∃ wh, wh = (whoN z).1 := ⟨_, rfl⟩
 obtain ⟨f', hf'⟩ : ∃ f', f' = (rplaceN T B sl rm wh).1 := ⟨_, rfl⟩
 obtain ⟨mo, hmo⟩ : ∃ mo, mo = (rplaceN T B sl rm wh).2 := ⟨_, rfl⟩
 by_cases hz : z = 0
 ·have hb0 : (z == 0) = true := by simpa using hz
  have hd0 : decide (z = 0) = true := decide_eq_true hz
  have HZz := hid hz
  clear hz hp
  go_enter Tryd.func7, Tryd.ntmps7
  go_upto_region 1 with fail
  generalize hU : World.alloc _ _ = U
  have HEU := hid (show Ext w U by rw [← hU]; (show Ext _ _; repeat first | (with_reducible first | (refine xH ?_; assumption) | exact xR _ | refine xX ?_ _ | refine xA ?_ _) | refine xD ?_ | refine xN ?_ _ | exact xR _))
  have HB3 := hid (show Blk U w.heap.size (kdL T B sl rm (N : Int) pv K.ms.length K.ss.length K.os.length ma qa oa mc qc oc) by rw [← hU]; (show Blk _ _ _; repeat first | (with_reducible first | (refine xH ?_; assumption) | refine bD ?_ | refine bX ?_ _) | (with_reducible refine bN _ _ rfl ?_; first | with_reducible rfl | (simp; done)) | (with_reducible first | refine bA ?_ _ | assumption | apply bS) | (with_reducible refine bO ?_ ?_; first | omega | (simp; omega)) | (show List.set _ _ _ = _; exact rfl) | (show _ < List.length _; simp; done)))
  have HB4 := hid (show Blk U (w.heap.size + 1) (rsL s la sa lc sc) by rw [← hU]; (show Blk _ _ _; repeat first | (with_reducible first | (refine xH ?_; assumption) | refine bD ?_ | refine bX ?_ _) | (with_reducible refine bN _ _ rfl ?_; first | with_reducible rfl | (simp; done)) | (with_reducible first | refine bA ?_ _ | assumption | apply bS) | (with_reducible refine bO ?_ ?_; first | omega | (simp; omega)) | (show List.set _ _ _ = _; exact rfl) | (show _ < List.length _; simp; done)))
  have HB2 := hid (show Blk U (w.heap.size + 1 + 1) [.int .i64 x, .int .u32 y, .int .u32 z, .bool ok] by rw [← hU]; (show Blk _ _ _; repeat first | (with_reducible first | (refine xH ?_; assumption) | refine bD ?_ | refine bX ?_ _) | (with_reducible refine bN _ _ rfl ?_; first | with_reducible rfl | (simp; done)) | (with_reducible first | refine bA ?_ _ | assumption | apply bS) | (with_reducible refine bO ?_ ?_; first | omega | (simp; omega)) | (show List.set _ _ _ = _; exact rfl) | (show _ < List.length _; simp; done)))
  have HB5 := hid (show Blk U (w.heap.size + 1 + 1 + 1) [.int .i64 0, .int .i64 0, .int .i64 0, .int .i64 0, .int .u32 0, .int .u32 0, .slice none 0 0, .slice none 0 0] by rw [← hU]; (show Blk _ _ _; repeat first | (with_reducible first | (refine xH ?_; assumption) | refine bD ?_ | refine bX ?_ _) | (with_reducible refine bN _ _ rfl ?_; first | with_reducible rfl | (simp; done)) | (with_reducible first | refine bA ?_ _ | assumption | apply bS) | (with_reducible refine bO ?_ ?_; first | omega | (simp; omega)) | (show List.set _ _ _ = _; exact rfl) | (show _ < List.length _; simp; done)))
  have HB6 := hid (show Blk U (w.heap.size + 1 + 1 + 1 + 1) [.int .i64 0, .int .i64 0, .int .i64 0, .int .u32 0, .int .u32 0, .int .i64 0, .int .u32 0, .int .u32 0] by rw [← hU]; (show Blk _ _ _; repeat first | (with_reducible first | (refine xH ?_; assumption) | refine bD ?_ | refine bX ?_ _) | (with_reducible refine bN _ _ rfl ?_; first | with_reducible rfl | (simp; done)) | (with_reducible first | refine bA ?_ _ | assumption | apply bS) | (with_reducible refine bO ?_ ?_; first | omega | (simp; omega)) | (show List.set _ _ _ = _; exact rfl) | (show _ < List.length _; simp; done)))
  clear hU
  obtain ⟨g, hgg⟩ : ∃ g, g = w.heap.size := ⟨_, rfl⟩
  have HGw := hid (show w.heap.size = g from hgg.symm)
  rw [← hgg] at HB2 HB3 HB4 HB5 HB6
  simp only [← hgg]
  have hwg : w.heap.size ≤ g := by omega
  clear hgg
  have HSU := hid (show Rv U (.agg (rsL s la sa lc sc).toArray) s la sa lc sc from HS.out.of HEU.out)
  have k0 := HB4.out.2.2 0 _ rfl
  have k1 := HB4.out.2.2 1 _ rfl
  have k2 := HB4.out.2.2 2 _ rfl
  have k3 := HB4.out.2.2 3 _ rfl
  have k4 := HB4.out.2.2 4 _ rfl
  have k5 := HB4.out.2.2 5 _ rfl
  have k6 := HB4.out.2.2 6 _ rfl
  have k7 := HB4.out.2.2 7 _ rfl
  have kg := HB4.out.1
  have kf := HB4.out.2.1
  have d0 := HB3.out.2.2 0 _ rfl
  have d1 := HB3.out.2.2 1 _ rfl
  have d2 := HB3.out.2.2 2 _ rfl
  have d3 := HB3.out.2.2 3 _ rfl
  have d4 := HB3.out.2.2 4 _ rfl
  have d5 := HB3.out.2.2 5 _ rfl
  have d6 := HB3.out.2.2 6 _ rfl
  have d7 := HB3.out.2.2 7 _ rfl
  have d8 := HB3.out.2.2 8 _ rfl
  have d9 := HB3.out.2.2 9 _ rfl
  have d10 := HB3.out.2.2 10 _ rfl
  have dg := HB3.out.1
  obtain ⟨h0, h1, h2, h3⟩ := HB2.out.four
  have hgt := HB2.out.1
  rw [hph] at k0
  have HPh := hid hph
  clear hph
  go_upto_region 7 with fail
  generalize hZ : World.setCell _ _ _ = Z
  have HEZ := hid (show Ext w Z by rw [← hZ]; exact ((HEU.out).setCell (by show w.heap.size ≤ g + 1; omega) _))
  have HZ4 := hid (show Blk Z (g + 1) (rsL { s with i := q } la sa lc sc) by rw [← hZ]; exact ((HB4.out).set 1 (by simp) _))
  have HZ3 := hid (show Blk Z g (kdL T B sl rm (N : Int) pv K.ms.length K.ss.length K.os.length ma qa oa mc qc oc) by rw [← hZ]; exact ((HB3.out).other (by omega) _))
  have HZ2 := hid (show Blk Z (g + 1 + 1) [.int .i64 x, .int .u32 y, .int .u32 z, .bool ok] by rw [← hZ]; exact ((HB2.out).other (by omega) _))
  have HZ5 := hid (show Blk Z (g + 1 + 1 + 1) [.int .i64 0, .int .i64 0, .int .i64 0, .int .i64 0, .int .u32 0, .int .u32 0, .slice none 0 0, .slice none 0 0] by rw [← hZ]; exact ((HB5.out).other (by omega) _))
  have HZ6 := hid (show Blk Z (g + 1 + 1 + 1 + 1) [.int .i64 0, .int .i64 0, .int .i64 0, .int .u32 0, .int .u32 0, .int .i64 0, .int .u32 0, .int .u32 0] by rw [← hZ]; exact ((HB6.out).other (by omega) _))
  clear hZ
  clear k0 k1 k2 k3 k4 k5 k6 k7 kg kf d0 d1 d2 d3 d4 d5 d6 d7 d8 d9 d10 dg h0 h1 h2 h3 hgt
  have k0 := HZ4.out.2.2 0 _ rfl
  have k1 := HZ4.out.2.2 1 _ rfl
  have k2 := HZ4.out.2.2 2 _ rfl
  have k3 := HZ4.out.2.2 3 _ rfl
  have k4 := HZ4.out.2.2 4 _ rfl
  have k5 := HZ4.out.2.2 5 _ rfl
  have k6 := HZ4.out.2.2 6 _ rfl
  have k7 := HZ4.out.2.2 7 _ rfl
  have kg := HZ4.out.1
  have kf := HZ4.out.2.1
  have d0 := HZ3.out.2.2 0 _ rfl
  have d1 := HZ3.out.2.2 1 _ rfl
  have d2 := HZ3.out.2.2 2 _ rfl
  have d3 := HZ3.out.2.2 3 _ rfl
  have d4 := HZ3.out.2.2 4 _ rfl
  have d5 := HZ3.out.2.2 5 _ rfl
  have d6 := HZ3.out.2.2 6 _ rfl
  have d7 := HZ3.out.2.2 7 _ rfl
  have d8 := HZ3.out.2.2 8 _ rfl
  have d9 := HZ3.out.2.2 9 _ rfl
  have d10 := HZ3.out.2.2 10 _ rfl
  have dg := HZ3.out.1
  obtain ⟨h0, h1, h2, h3⟩ := HZ2.out.four
  have hgt := HZ2.out.1
  have HSZ := hid (show Rv Z (.agg (rsL { s with i := q } la sa lc sc).toArray) { s with i := q } la sa lc sc from ⟨rfl, HS.out.ld.of wdE_len HEZ.out, HS.out.st.of locE_len HEZ.out, fun a ha => Nat.lt_of_lt_of_le (HS.out.lb a ha) HEZ.out.size, fun a ha => Nat.lt_of_lt_of_le (HS.out.sb a ha) HEZ.out.size⟩)
  have HNl := hid (show Nw w.heap.size la la from nw_refl)
  have HNs := hid (show Nw w.heap.size sa sa from nw_refl)
  have HOl := hid (show ∀ d : Addr, (la : Option Addr) = some d → d.block ≠ g + 1 + 1 + 1 ∧ d.block ≠ g + 1 + 1 + 1 + 1 from fun d hd => by have := HS.out.lb d hd; omega)
  have HOs := hid (show ∀ d : Addr, (sa : Option Addr) = some d → d.block ≠ g + 1 + 1 + 1 ∧ d.block ≠ g + 1 + 1 + 1 + 1 from fun d hd => by have := HS.out.sb d hd; omega)
  have HKZ := hid (HK.out.of HEZ.out)
  have HZs := hid HZ6.out.1
  obtain ⟨r, hr⟩ : ∃ r, r = rWord K { s with i := q } := ⟨_, rfl⟩
  have HC := hid (rword_any HKZ.out HSZ.out (by have := HI.out.i; first | (have := HQ.out; show _ ≤ _; dsimp only; omega) | omega | (show _ ≤ _; dsimp only; omega)) (by have := HI.out.st; first | omega | (show _ ≤ _; dsimp only; omega) | simp))
  rw [← hr] at HC
  have HRr := hid (show rNext K s (x, y, z) = r by rw [hr]; exact (by unfold rNext; simp [HPh.out, HZz.out, HQ.out]))
  clear hr
  obtain ⟨⟨ph2, i2, j2, ⟨m2, m3, m4⟩, ld2, st2⟩, op2, at2, a3, a4, a5⟩ := r
  go_wp2_with (go_call HC.out as e w' ⟨v, la2, sa2, lc2, sc2, rfl, hv, hn1, hn2, he2⟩; have hvv := hv.val; subst hvv; have HV := hid hv; have HN1 := hid hn1; have HN2 := hid hn2; clear hv hn1 hn2; have HEx := hid (HEZ.out.trans he2); have HBx5 := hid (HZ5.out.of he2); have HBx6 := hid (HZ6.out.of he2); clear he2; have y1 := HBx5.out.1; have y2' := HBx6.out.1; have y3 := HBx5.out.2.1; have y4 := HBx6.out.2.1; obtain ⟨x0, x1, x2, x3, x4, x5, x6, x7⟩ := HBx5.out.eight; obtain ⟨v0, v1, v2, v3, v4, v5, v6, v7⟩ := HBx6.out.eight; simp only [acE])
  obtain ⟨W, hW, hW5, hW6, hWE, W1, hG1, hG2⟩ := st16 HBx5.out HBx6.out (by omega) (.int .i64 ph2) (.int .i64 i2) (.int .i64 j2) (.int .i64 m2) (.int .u32 m3) (.int .u32 m4) (.slice la2 ld2.length lc2) (.slice sa2 st2.length sc2) (.int .i64 op2) (.int .i64 at2) (.int .i64 0) (.int .u32 0) (.int .u32 0) (.int .i64 a3) (.int .u32 a4) (.int .u32 a5)
  rw [hW]
  have HE := hid (hWE w HEx.out (by omega) (by omega))
  have HSz := hid (Nat.le_trans hG1.size hG2.size)
  have HWl := hid (HV.out.ld.two wdE_len hG1 hG2 (HN1.out.ne2 (fun d hd => (HOl.out d hd).1) (by have := HZs.out; omega)) (HN1.out.ne2 (fun d hd => (HOl.out d hd).2) (by have := HZs.out; omega)))
  have HWs := hid (HV.out.st.two locE_len hG1 hG2 (HN2.out.ne2 (fun d hd => (HOs.out d hd).1) (by have := HZs.out; omega)) (HN2.out.ne2 (fun d hd => (HOs.out d hd).2) (by have := HZs.out; omega)))
  obtain ⟨r0, r1, r2, r3, r4, r5, r6, r7⟩ := hW5.eight
  obtain ⟨q0, q1, q2, q3, q4, q5, q6, q7⟩ := hW6.eight
  have w5 := hW5.1
  have w6 := hW6.1
  exact bodyPost_ret (v := .tuple #[.agg (rsL ⟨ph2, i2, j2, (m2, m3, m4), ld2, st2⟩ la2 sa2 lc2 sc2).toArray, .agg (acE (op2, at2, (a3, a4, a5))).toArray]) (by simp [results, Tryd.results7, go_sem, r0, r1, r2, r3, r4, r5, r6, r7, q0, q1, q2, q3, q4, q5, q6, q7, w5, w6, acE, zW]) rfl (by rw [HRr.out]; exact ⟨_, la2, sa2, lc2, sc2, rfl, ⟨rfl, HWl.out, HWs.out, fun a ha => Nat.lt_of_lt_of_le (HV.out.lb a ha) HSz.out, fun a ha => Nat.lt_of_lt_of_le (HV.out.sb a ha) HSz.out⟩, HNl.out.trans (HN1.out.mono HEZ.out.size), HNs.out.trans (HN2.out.mono HEZ.out.size), HE.out⟩)
 ·have hb0 : (z == 0) = false := by simpa using hz
  have hd0 : decide (z = 0) = false := decide_eq_false hz
  have hpl : rPl K { s with met := (x, y, z), ld := [] } = (f', mo) := by show K.place (whoN z).1 = _; rw [HPl.out.place _ (whoN_bd _).1 (whoN_bd _).2, ← hwh, hf', hmo]
  have hroom := HPl.out.room wh (by rw [hwh]; have := whoN_bd z; omega) (by rw [hwh]; have := whoN_bd z; omega)
  have hpos := rplace_pos (T := T) (B := B) (who := wh) HPl.out.hsl HPl.out.hrm
  rw [← hf', ← hmo] at hroom hpos
  have HRA := hid (show wh = 0 ∨ mo = 0 → rNext K s (x, y, z) = rPlain K { s with met := (x, y, z), ld := [] } from fun h => by unfold rNext; rw [if_neg (by omega), if_pos hph, if_neg hz]; dsimp only; rw [hpl, ← hwh, if_pos h])
  have HRB := hid (show ¬ (wh = 0 ∨ mo = 0) → rNext K s (x, y, z) = ({ s with ph := 2, met := (x, y, z), ld := [] }, ((1 : Int), f', zW)) from fun h => by unfold rNext; rw [if_neg (by omega), if_pos hph, if_neg hz]; dsimp only; rw [hpl, ← hwh, if_neg h])
  have HFit := hid (show 0 < mo → 0 ≤ f' ∧ f'.toNat + 0 ≤ N from fun h => by have h1 := hpos h; have h2 := hroom (by omega); omega)
  clear hpl hroom hpos hz
  have HWh := hid hwh
  have HF := hid hf'
  have HMo := hid hmo
  clear hwh hf' hmo
  have hcs : ((wh == 0) = true ∧ decide (wh = 0) = true ∧ True ∧ True ∧ (wh = 0 ∨ mo = 0)) ∨ ((wh == 0) = false ∧ decide (wh = 0) = false ∧ (mo == 0) = true ∧ decide (mo = 0) = true ∧ (wh = 0 ∨ mo = 0)) ∨ ((wh == 0) = false ∧ decide (wh = 0) = false ∧ (mo == 0) = false ∧ decide (mo = 0) = false ∧ ¬ (wh = 0 ∨ mo = 0)) := by
   by_cases h1 : wh = 0
   ·exact .inl (by simp [h1])
   ·by_cases h2 : mo = 0
    ·exact .inr (.inl (by simp [h1, h2]))
    ·exact .inr (.inr (by simp [h1, h2]))
  clear hp
  go_enter Tryd.func7, Tryd.ntmps7
  go_upto_region 1 with fail
  generalize hU : World.alloc _ _ = U
  have HEU := hid (show Ext w U by rw [← hU]; (show Ext _ _; repeat first | (with_reducible first | (refine xH ?_; assumption) | exact xR _ | refine xX ?_ _ | refine xA ?_ _) | refine xD ?_ | refine xN ?_ _ | exact xR _))
  have HB3 := hid (show Blk U w.heap.size (kdL T B sl rm (N : Int) pv K.ms.length K.ss.length K.os.length ma qa oa mc qc oc) by rw [← hU]; (show Blk _ _ _; repeat first | (with_reducible first | (refine xH ?_; assumption) | refine bD ?_ | refine bX ?_ _) | (with_reducible refine bN _ _ rfl ?_; first | with_reducible rfl | (simp; done)) | (with_reducible first | refine bA ?_ _ | assumption | apply bS) | (with_reducible refine bO ?_ ?_; first | omega | (simp; omega)) | (show List.set _ _ _ = _; exact rfl) | (show _ < List.length _; simp; done)))
  have HB4 := hid (show Blk U (w.heap.size + 1) (rsL s la sa lc sc) by rw [← hU]; (show Blk _ _ _; repeat first | (with_reducible first | (refine xH ?_; assumption) | refine bD ?_ | refine bX ?_ _) | (with_reducible refine bN _ _ rfl ?_; first | with_reducible rfl | (simp; done)) | (with_reducible first | refine bA ?_ _ | assumption | apply bS) | (with_reducible refine bO ?_ ?_; first | omega | (simp; omega)) | (show List.set _ _ _ = _; exact rfl) | (show _ < List.length _; simp; done)))
  have HB2 := hid (show Blk U (w.heap.size + 1 + 1) [.int .i64 x, .int .u32 y, .int .u32 z, .bool ok] by rw [← hU]; (show Blk _ _ _; repeat first | (with_reducible first | (refine xH ?_; assumption) | refine bD ?_ | refine bX ?_ _) | (with_reducible refine bN _ _ rfl ?_; first | with_reducible rfl | (simp; done)) | (with_reducible first | refine bA ?_ _ | assumption | apply bS) | (with_reducible refine bO ?_ ?_; first | omega | (simp; omega)) | (show List.set _ _ _ = _; exact rfl) | (show _ < List.length _; simp; done)))
  have HB5 := hid (show Blk U (w.heap.size + 1 + 1 + 1) [.int .i64 0, .int .i64 0, .int .i64 0, .int .i64 0, .int .u32 0, .int .u32 0, .slice none 0 0, .slice none 0 0] by rw [← hU]; (show Blk _ _ _; repeat first | (with_reducible first | (refine xH ?_; assumption) | refine bD ?_ | refine bX ?_ _) | (with_reducible refine bN _ _ rfl ?_; first | with_reducible rfl | (simp; done)) | (with_reducible first | refine bA ?_ _ | assumption | apply bS) | (with_reducible refine bO ?_ ?_; first | omega | (simp; omega)) | (show List.set _ _ _ = _; exact rfl) | (show _ < List.length _; simp; done)))
  have HB6 := hid (show Blk U (w.heap.size + 1 + 1 + 1 + 1) [.int .i64 0, .int .i64 0, .int .i64 0, .int .u32 0, .int .u32 0, .int .i64 0, .int .u32 0, .int .u32 0] by rw [← hU]; (show Blk _ _ _; repeat first | (with_reducible first | (refine xH ?_; assumption) | refine bD ?_ | refine bX ?_ _) | (with_reducible refine bN _ _ rfl ?_; first | with_reducible rfl | (simp; done)) | (with_reducible first | refine bA ?_ _ | assumption | apply bS) | (with_reducible refine bO ?_ ?_; first | omega | (simp; omega)) | (show List.set _ _ _ = _; exact rfl) | (show _ < List.length _; simp; done)))
  clear hU
  obtain ⟨g, hgg⟩ : ∃ g, g = w.heap.size := ⟨_, rfl⟩
  have HGw := hid (show w.heap.size = g from hgg.symm)
  rw [← hgg] at HB2 HB3 HB4 HB5 HB6
  simp only [← hgg]
  have hwg : w.heap.size ≤ g := by omega
  clear hgg
  have HSU := hid (show Rv U (.agg (rsL s la sa lc sc).toArray) s la sa lc sc from HS.out.of HEU.out)
  have k0 := HB4.out.2.2 0 _ rfl
  have k1 := HB4.out.2.2 1 _ rfl
  have k2 := HB4.out.2.2 2 _ rfl
  have k3 := HB4.out.2.2 3 _ rfl
  have k4 := HB4.out.2.2 4 _ rfl
  have k5 := HB4.out.2.2 5 _ rfl
  have k6 := HB4.out.2.2 6 _ rfl
  have k7 := HB4.out.2.2 7 _ rfl
  have kg := HB4.out.1
  have kf := HB4.out.2.1
  have d0 := HB3.out.2.2 0 _ rfl
  have d1 := HB3.out.2.2 1 _ rfl
  have d2 := HB3.out.2.2 2 _ rfl
  have d3 := HB3.out.2.2 3 _ rfl
  have d4 := HB3.out.2.2 4 _ rfl
  have d5 := HB3.out.2.2 5 _ rfl
  have d6 := HB3.out.2.2 6 _ rfl
  have d7 := HB3.out.2.2 7 _ rfl
  have d8 := HB3.out.2.2 8 _ rfl
  have d9 := HB3.out.2.2 9 _ rfl
  have d10 := HB3.out.2.2 10 _ rfl
  have dg := HB3.out.1
  obtain ⟨h0, h1, h2, h3⟩ := HB2.out.four
  have hgt := HB2.out.1
  rw [hph] at k0
  have HPh := hid hph
  clear hph
  go_upto_region 9 with fail
  generalize hZ : World.setCell _ _ _ = Z
  have HEZ := hid (show Ext w Z by rw [← hZ]; exact ((((((((HEU.out).setCell (by show w.heap.size ≤ g + 1; omega) _)).setCell (by show w.heap.size ≤ g + 1; omega) _)).setCell (by show w.heap.size ≤ g + 1; omega) _)).setCell (by show w.heap.size ≤ g + 1; omega) _))
  have HZ4 := hid (show Blk Z (g + 1) (rsL { s with met := (x, y, z), ld := [] } none sa 0 sc) by rw [← hZ]; exact ((((((((HB4.out).set 3 (by simp) _)).set 4 (by simp) _)).set 5 (by simp) _)).set 6 (by simp) _))
  have HZ3 := hid (show Blk Z g (kdL T B sl rm (N : Int) pv K.ms.length K.ss.length K.os.length ma qa oa mc qc oc) by rw [← hZ]; exact ((((((((HB3.out).other (by omega) _)).other (by omega) _)).other (by omega) _)).other (by omega) _))
  have HZ2 := hid (show Blk Z (g + 1 + 1) [.int .i64 x, .int .u32 y, .int .u32 z, .bool ok] by rw [← hZ]; exact ((((((((HB2.out).other (by omega) _)).other (by omega) _)).other (by omega) _)).other (by omega) _))
  have HZ5 := hid (show Blk Z (g + 1 + 1 + 1) [.int .i64 0, .int .i64 0, .int .i64 0, .int .i64 0, .int .u32 0, .int .u32 0, .slice none 0 0, .slice none 0 0] by rw [← hZ]; exact ((((((((HB5.out).other (by omega) _)).other (by omega) _)).other (by omega) _)).other (by omega) _))
  have HZ6 := hid (show Blk Z (g + 1 + 1 + 1 + 1) [.int .i64 0, .int .i64 0, .int .i64 0, .int .u32 0, .int .u32 0, .int .i64 0, .int .u32 0, .int .u32 0] by rw [← hZ]; exact ((((((((HB6.out).other (by omega) _)).other (by omega) _)).other (by omega) _)).other (by omega) _))
  clear hZ
  clear k0 k1 k2 k3 k4 k5 k6 k7 kg kf d0 d1 d2 d3 d4 d5 d6 d7 d8 d9 d10 dg h0 h1 h2 h3 hgt
  have k0 := HZ4.out.2.2 0 _ rfl
  have k1 := HZ4.out.2.2 1 _ rfl
  have k2 := HZ4.out.2.2 2 _ rfl
  have k3 := HZ4.out.2.2 3 _ rfl
  have k4 := HZ4.out.2.2 4 _ rfl
  have k5 := HZ4.out.2.2 5 _ rfl
  have k6 := HZ4.out.2.2 6 _ rfl
  have k7 := HZ4.out.2.2 7 _ rfl
  have kg := HZ4.out.1
  have kf := HZ4.out.2.1
  have d0 := HZ3.out.2.2 0 _ rfl
  have d1 := HZ3.out.2.2 1 _ rfl
  have d2 := HZ3.out.2.2 2 _ rfl
  have d3 := HZ3.out.2.2 3 _ rfl
  have d4 := HZ3.out.2.2 4 _ rfl
  have d5 := HZ3.out.2.2 5 _ rfl
  have d6 := HZ3.out.2.2 6 _ rfl
  have d7 := HZ3.out.2.2 7 _ rfl
  have d8 := HZ3.out.2.2 8 _ rfl
  have d9 := HZ3.out.2.2 9 _ rfl
  have d10 := HZ3.out.2.2 10 _ rfl
  have dg := HZ3.out.1
  obtain ⟨h0, h1, h2, h3⟩ := HZ2.out.four
  have hgt := HZ2.out.1
  have HSZ := hid (show Rv Z (.agg (rsL { s with met := (x, y, z), ld := [] } none sa 0 sc).toArray) { s with met := (x, y, z), ld := [] } none sa 0 sc from ⟨rfl, Sl.nil, HS.out.st.of locE_len HEZ.out, fun a ha => (by cases ha), fun a ha => Nat.lt_of_lt_of_le (HS.out.sb a ha) HEZ.out.size⟩)
  have HNl := hid (show Nw w.heap.size la none from nw_none)
  have HNs := hid (show Nw w.heap.size sa sa from nw_refl)
  have HOl := hid (show ∀ d : Addr, (none : Option Addr) = some d → d.block ≠ g + 1 + 1 + 1 ∧ d.block ≠ g + 1 + 1 + 1 + 1 from fun d hd => by cases hd)
  have HOs := hid (show ∀ d : Addr, (sa : Option Addr) = some d → d.block ≠ g + 1 + 1 + 1 ∧ d.block ≠ g + 1 + 1 + 1 + 1 from fun d hd => by have := HS.out.sb d hd; omega)
  have hzz := HGk.out.2.2
  dsimp only at hzz
  have hcs2 : ((wh == 0) = true ∨ (wh == 0) = false) := by cases (wh == 0) <;> simp
  clear hcs2
  rcases hcs with ⟨t1, t2, t3, t4, t5⟩ | ⟨t1, t2, t3, t4, t5⟩ | ⟨t1, t2, t3, t4, t5⟩
  ·have HT5 := hid t5
   clear t5
   go_wp2_with (go_call (rwho_any z hz1 hz2 _) as e w' ⟨rfl, r1, rfl⟩; rw [← HWh.out])
   go_call (rplace_any T B sl rm wh pv N HPl.out.hT HPl.out.hB HPl.out.hsl HPl.out.hrm _) as e w' ⟨rfl, r2, rfl⟩
   rw [← HF.out, ← HMo.out]
   generalize hX : ext _ r2 = X
   have hEZX : Ext Z X := by rw [← hX]; (show Ext _ _; repeat first | (with_reducible first | (refine xH ?_; assumption) | exact xR _ | refine xX ?_ _ | refine xA ?_ _) | refine xD ?_ | refine xN ?_ _ | exact xR _)
   have HEX := hid (HEZ.out.trans hEZX)
   have HX2 := hid (HZ2.out.of hEZX)
   have HX3 := hid (HZ3.out.of hEZX)
   have HX4 := hid (HZ4.out.of hEZX)
   have HX5 := hid (HZ5.out.of hEZX)
   have HX6 := hid (HZ6.out.of hEZX)
   clear hX
   go_upto_region 12 with fail
   clear k0 k1 k2 k3 k4 k5 k6 k7 kg kf d0 d1 d2 d3 d4 d5 d6 d7 d8 d9 d10 dg h0 h1 h2 h3 hgt
   clear HSZ HNl HNs HOl HOs
   obtain ⟨Z, hZ⟩ : ∃ Z, X = Z := ⟨_, rfl⟩
   rw [hZ]
   have HEZ := hid (show Ext w Z by rw [← hZ]; exact HEX.out)
   have HZ4 := hid (show Blk Z (g + 1) (rsL { s with met := (x, y, z), ld := [] } none sa 0 sc) by rw [← hZ]; exact HX4.out)
   have HZ3 := hid (show Blk Z g (kdL T B sl rm (N : Int) pv K.ms.length K.ss.length K.os.length ma qa oa mc qc oc) by rw [← hZ]; exact HX3.out)
   have HZ2 := hid (show Blk Z (g + 1 + 1) [.int .i64 x, .int .u32 y, .int .u32 z, .bool ok] by rw [← hZ]; exact HX2.out)
   have HZ5 := hid (show Blk Z (g + 1 + 1 + 1) [.int .i64 0, .int .i64 0, .int .i64 0, .int .i64 0, .int .u32 0, .int .u32 0, .slice none 0 0, .slice none 0 0] by rw [← hZ]; exact HX5.out)
   have HZ6 := hid (show Blk Z (g + 1 + 1 + 1 + 1) [.int .i64 0, .int .i64 0, .int .i64 0, .int .u32 0, .int .u32 0, .int .i64 0, .int .u32 0, .int .u32 0] by rw [← hZ]; exact HX6.out)
   clear hZ
   skip
   have k0 := HZ4.out.2.2 0 _ rfl
   have k1 := HZ4.out.2.2 1 _ rfl
   have k2 := HZ4.out.2.2 2 _ rfl
   have k3 := HZ4.out.2.2 3 _ rfl
   have k4 := HZ4.out.2.2 4 _ rfl
   have k5 := HZ4.out.2.2 5 _ rfl
   have k6 := HZ4.out.2.2 6 _ rfl
   have k7 := HZ4.out.2.2 7 _ rfl
   have kg := HZ4.out.1
   have kf := HZ4.out.2.1
   have d0 := HZ3.out.2.2 0 _ rfl
   have d1 := HZ3.out.2.2 1 _ rfl
   have d2 := HZ3.out.2.2 2 _ rfl
   have d3 := HZ3.out.2.2 3 _ rfl
   have d4 := HZ3.out.2.2 4 _ rfl
   have d5 := HZ3.out.2.2 5 _ rfl
   have d6 := HZ3.out.2.2 6 _ rfl
   have d7 := HZ3.out.2.2 7 _ rfl
   have d8 := HZ3.out.2.2 8 _ rfl
   have d9 := HZ3.out.2.2 9 _ rfl
   have d10 := HZ3.out.2.2 10 _ rfl
   have dg := HZ3.out.1
   obtain ⟨h0, h1, h2, h3⟩ := HZ2.out.four
   have hgt := HZ2.out.1
   have HSZ := hid (show Rv Z (.agg (rsL { s with met := (x, y, z), ld := [] } none sa 0 sc).toArray) { s with met := (x, y, z), ld := [] } none sa 0 sc from ⟨rfl, Sl.nil, HS.out.st.of locE_len HEZ.out, fun a ha => (by cases ha), fun a ha => Nat.lt_of_lt_of_le (HS.out.sb a ha) HEZ.out.size⟩)
   have HNl := hid (show Nw w.heap.size la none from nw_none)
   have HNs := hid (show Nw w.heap.size sa sa from nw_refl)
   have HOl := hid (show ∀ d : Addr, (none : Option Addr) = some d → d.block ≠ g + 1 + 1 + 1 ∧ d.block ≠ g + 1 + 1 + 1 + 1 from fun d hd => by cases hd)
   have HOs := hid (show ∀ d : Addr, (sa : Option Addr) = some d → d.block ≠ g + 1 + 1 + 1 ∧ d.block ≠ g + 1 + 1 + 1 + 1 from fun d hd => by have := HS.out.sb d hd; omega)
   have HKZ := hid (HK.out.of HEZ.out)
   have HZs := hid HZ6.out.1
   obtain ⟨r, hr⟩ : ∃ r, r = rPlain K { s with met := (x, y, z), ld := [] } := ⟨_, rfl⟩
   have HC := hid (rplain_any HKZ.out HSZ.out HPl.out p HPp.out (by have := HI.out.st; show _ ≤ _; dsimp only; omega) (by simp) (by simp) HGk.out (by show 0 < (rplaceN T B sl rm (whoN z).1).2 → _; rw [← HWh.out, ← HF.out, ← HMo.out]; exact HFit.out))
   rw [← hr] at HC
   have HRr := hid (show rNext K s (x, y, z) = r by rw [hr]; exact (HRA.out HT5.out))
   clear hr
   obtain ⟨⟨ph2, i2, j2, ⟨m2, m3, m4⟩, ld2, st2⟩, op2, at2, a3, a4, a5⟩ := r
   go_wp2_with (go_call HC.out as e w' ⟨v, la2, sa2, lc2, sc2, rfl, hv, hn1, hn2, he2⟩; have hvv := hv.val; subst hvv; have HV := hid hv; have HN1 := hid hn1; have HN2 := hid hn2; clear hv hn1 hn2; have HEx := hid (HEZ.out.trans he2); have HBx5 := hid (HZ5.out.of he2); have HBx6 := hid (HZ6.out.of he2); clear he2; have y1 := HBx5.out.1; have y2' := HBx6.out.1; have y3 := HBx5.out.2.1; have y4 := HBx6.out.2.1; obtain ⟨x0, x1, x2, x3, x4, x5, x6, x7⟩ := HBx5.out.eight; obtain ⟨v0, v1, v2, v3, v4, v5, v6, v7⟩ := HBx6.out.eight; simp only [acE])
   obtain ⟨W, hW, hW5, hW6, hWE, W1, hG1, hG2⟩ := st16 HBx5.out HBx6.out (by omega) (.int .i64 ph2) (.int .i64 i2) (.int .i64 j2) (.int .i64 m2) (.int .u32 m3) (.int .u32 m4) (.slice la2 ld2.length lc2) (.slice sa2 st2.length sc2) (.int .i64 op2) (.int .i64 at2) (.int .i64 0) (.int .u32 0) (.int .u32 0) (.int .i64 a3) (.int .u32 a4) (.int .u32 a5)
   rw [hW]
   have HE := hid (hWE w HEx.out (by omega) (by omega))
   have HSz := hid (Nat.le_trans hG1.size hG2.size)
   have HWl := hid (HV.out.ld.two wdE_len hG1 hG2 (HN1.out.ne2 (fun d hd => (HOl.out d hd).1) (by have := HZs.out; omega)) (HN1.out.ne2 (fun d hd => (HOl.out d hd).2) (by have := HZs.out; omega)))
   have HWs := hid (HV.out.st.two locE_len hG1 hG2 (HN2.out.ne2 (fun d hd => (HOs.out d hd).1) (by have := HZs.out; omega)) (HN2.out.ne2 (fun d hd => (HOs.out d hd).2) (by have := HZs.out; omega)))
   obtain ⟨r0, r1, r2, r3, r4, r5, r6, r7⟩ := hW5.eight
   obtain ⟨q0, q1, q2, q3, q4, q5, q6, q7⟩ := hW6.eight
   have w5 := hW5.1
   have w6 := hW6.1
   exact bodyPost_ret (v := .tuple #[.agg (rsL ⟨ph2, i2, j2, (m2, m3, m4), ld2, st2⟩ la2 sa2 lc2 sc2).toArray, .agg (acE (op2, at2, (a3, a4, a5))).toArray]) (by simp [results, Tryd.results7, go_sem, r0, r1, r2, r3, r4, r5, r6, r7, q0, q1, q2, q3, q4, q5, q6, q7, w5, w6, acE, zW]) rfl (by rw [HRr.out]; exact ⟨_, la2, sa2, lc2, sc2, rfl, ⟨rfl, HWl.out, HWs.out, fun a ha => Nat.lt_of_lt_of_le (HV.out.lb a ha) HSz.out, fun a ha => Nat.lt_of_lt_of_le (HV.out.sb a ha) HSz.out⟩, HNl.out.trans (HN1.out.mono HEZ.out.size), HNs.out.trans (HN2.out.mono HEZ.out.size), HE.out⟩)
  ·have HT5 := hid t5
   clear t5
   go_wp2_with (go_call (rwho_any z hz1 hz2 _) as e w' ⟨rfl, r1, rfl⟩; rw [← HWh.out])
   go_call (rplace_any T B sl rm wh pv N HPl.out.hT HPl.out.hB HPl.out.hsl HPl.out.hrm _) as e w' ⟨rfl, r2, rfl⟩
   rw [← HF.out, ← HMo.out]
   generalize hX : ext _ r2 = X
   have hEZX : Ext Z X := by rw [← hX]; (show Ext _ _; repeat first | (with_reducible first | (refine xH ?_; assumption) | exact xR _ | refine xX ?_ _ | refine xA ?_ _) | refine xD ?_ | refine xN ?_ _ | exact xR _)
   have HEX := hid (HEZ.out.trans hEZX)
   have HX2 := hid (HZ2.out.of hEZX)
   have HX3 := hid (HZ3.out.of hEZX)
   have HX4 := hid (HZ4.out.of hEZX)
   have HX5 := hid (HZ5.out.of hEZX)
   have HX6 := hid (HZ6.out.of hEZX)
   clear hX
   go_upto_region 12 with fail
   clear k0 k1 k2 k3 k4 k5 k6 k7 kg kf d0 d1 d2 d3 d4 d5 d6 d7 d8 d9 d10 dg h0 h1 h2 h3 hgt
   clear HSZ HNl HNs HOl HOs
   obtain ⟨Z, hZ⟩ : ∃ Z, X = Z := ⟨_, rfl⟩
   rw [hZ]
   have HEZ := hid (show Ext w Z by rw [← hZ]; exact HEX.out)
   have HZ4 := hid (show Blk Z (g + 1) (rsL { s with met := (x, y, z), ld := [] } none sa 0 sc) by rw [← hZ]; exact HX4.out)
   have HZ3 := hid (show Blk Z g (kdL T B sl rm (N : Int) pv K.ms.length K.ss.length K.os.length ma qa oa mc qc oc) by rw [← hZ]; exact HX3.out)
   have HZ2 := hid (show Blk Z (g + 1 + 1) [.int .i64 x, .int .u32 y, .int .u32 z, .bool ok] by rw [← hZ]; exact HX2.out)
   have HZ5 := hid (show Blk Z (g + 1 + 1 + 1) [.int .i64 0, .int .i64 0, .int .i64 0, .int .i64 0, .int .u32 0, .int .u32 0, .slice none 0 0, .slice none 0 0] by rw [← hZ]; exact HX5.out)
   have HZ6 := hid (show Blk Z (g + 1 + 1 + 1 + 1) [.int .i64 0, .int .i64 0, .int .i64 0, .int .u32 0, .int .u32 0, .int .i64 0, .int .u32 0, .int .u32 0] by rw [← hZ]; exact HX6.out)
   clear hZ
   skip
   have k0 := HZ4.out.2.2 0 _ rfl
   have k1 := HZ4.out.2.2 1 _ rfl
   have k2 := HZ4.out.2.2 2 _ rfl
   have k3 := HZ4.out.2.2 3 _ rfl
   have k4 := HZ4.out.2.2 4 _ rfl
   have k5 := HZ4.out.2.2 5 _ rfl
   have k6 := HZ4.out.2.2 6 _ rfl
   have k7 := HZ4.out.2.2 7 _ rfl
   have kg := HZ4.out.1
   have kf := HZ4.out.2.1
   have d0 := HZ3.out.2.2 0 _ rfl
   have d1 := HZ3.out.2.2 1 _ rfl
   have d2 := HZ3.out.2.2 2 _ rfl
   have d3 := HZ3.out.2.2 3 _ rfl
   have d4 := HZ3.out.2.2 4 _ rfl
   have d5 := HZ3.out.2.2 5 _ rfl
   have d6 := HZ3.out.2.2 6 _ rfl
   have d7 := HZ3.out.2.2 7 _ rfl
   have d8 := HZ3.out.2.2 8 _ rfl
   have d9 := HZ3.out.2.2 9 _ rfl
   have d10 := HZ3.out.2.2 10 _ rfl
   have dg := HZ3.out.1
   obtain ⟨h0, h1, h2, h3⟩ := HZ2.out.four
   have hgt := HZ2.out.1
   have HSZ := hid (show Rv Z (.agg (rsL { s with met := (x, y, z), ld := [] } none sa 0 sc).toArray) { s with met := (x, y, z), ld := [] } none sa 0 sc from ⟨rfl, Sl.nil, HS.out.st.of locE_len HEZ.out, fun a ha => (by cases ha), fun a ha => Nat.lt_of_lt_of_le (HS.out.sb a ha) HEZ.out.size⟩)
   have HNl := hid (show Nw w.heap.size la none from nw_none)
   have HNs := hid (show Nw w.heap.size sa sa from nw_refl)
   have HOl := hid (show ∀ d : Addr, (none : Option Addr) = some d → d.block ≠ g + 1 + 1 + 1 ∧ d.block ≠ g + 1 + 1 + 1 + 1 from fun d hd => by cases hd)
   have HOs := hid (show ∀ d : Addr, (sa : Option Addr) = some d → d.block ≠ g + 1 + 1 + 1 ∧ d.block ≠ g + 1 + 1 + 1 + 1 from fun d hd => by have := HS.out.sb d hd; omega)
   have HKZ := hid (HK.out.of HEZ.out)
   have HZs := hid HZ6.out.1
   obtain ⟨r, hr⟩ : ∃ r, r = rPlain K { s with met := (x, y, z), ld := [] } := ⟨_, rfl⟩
   have HC := hid (rplain_any HKZ.out HSZ.out HPl.out p HPp.out (by have := HI.out.st; show _ ≤ _; dsimp only; omega) (by simp) (by simp) HGk.out (by show 0 < (rplaceN T B sl rm (whoN z).1).2 → _; rw [← HWh.out, ← HF.out, ← HMo.out]; exact HFit.out))
   rw [← hr] at HC
   have HRr := hid (show rNext K s (x, y, z) = r by rw [hr]; exact (HRA.out HT5.out))
   clear hr
   obtain ⟨⟨ph2, i2, j2, ⟨m2, m3, m4⟩, ld2, st2⟩, op2, at2, a3, a4, a5⟩ := r
   go_wp2_with (go_call HC.out as e w' ⟨v, la2, sa2, lc2, sc2, rfl, hv, hn1, hn2, he2⟩; have hvv := hv.val; subst hvv; have HV := hid hv; have HN1 := hid hn1; have HN2 := hid hn2; clear hv hn1 hn2; have HEx := hid (HEZ.out.trans he2); have HBx5 := hid (HZ5.out.of he2); have HBx6 := hid (HZ6.out.of he2); clear he2; have y1 := HBx5.out.1; have y2' := HBx6.out.1; have y3 := HBx5.out.2.1; have y4 := HBx6.out.2.1; obtain ⟨x0, x1, x2, x3, x4, x5, x6, x7⟩ := HBx5.out.eight; obtain ⟨v0, v1, v2, v3, v4, v5, v6, v7⟩ := HBx6.out.eight; simp only [acE])
   obtain ⟨W, hW, hW5, hW6, hWE, W1, hG1, hG2⟩ := st16 HBx5.out HBx6.out (by omega) (.int .i64 ph2) (.int .i64 i2) (.int .i64 j2) (.int .i64 m2) (.int .u32 m3) (.int .u32 m4) (.slice la2 ld2.length lc2) (.slice sa2 st2.length sc2) (.int .i64 op2) (.int .i64 at2) (.int .i64 0) (.int .u32 0) (.int .u32 0) (.int .i64 a3) (.int .u32 a4) (.int .u32 a5)
   rw [hW]
   have HE := hid (hWE w HEx.out (by omega) (by omega))
   have HSz := hid (Nat.le_trans hG1.size hG2.size)
   have HWl := hid (HV.out.ld.two wdE_len hG1 hG2 (HN1.out.ne2 (fun d hd => (HOl.out d hd).1) (by have := HZs.out; omega)) (HN1.out.ne2 (fun d hd => (HOl.out d hd).2) (by have := HZs.out; omega)))
   have HWs := hid (HV.out.st.two locE_len hG1 hG2 (HN2.out.ne2 (fun d hd => (HOs.out d hd).1) (by have := HZs.out; omega)) (HN2.out.ne2 (fun d hd => (HOs.out d hd).2) (by have := HZs.out; omega)))
   obtain ⟨r0, r1, r2, r3, r4, r5, r6, r7⟩ := hW5.eight
   obtain ⟨q0, q1, q2, q3, q4, q5, q6, q7⟩ := hW6.eight
   have w5 := hW5.1
   have w6 := hW6.1
   exact bodyPost_ret (v := .tuple #[.agg (rsL ⟨ph2, i2, j2, (m2, m3, m4), ld2, st2⟩ la2 sa2 lc2 sc2).toArray, .agg (acE (op2, at2, (a3, a4, a5))).toArray]) (by simp [results, Tryd.results7, go_sem, r0, r1, r2, r3, r4, r5, r6, r7, q0, q1, q2, q3, q4, q5, q6, q7, w5, w6, acE, zW]) rfl (by rw [HRr.out]; exact ⟨_, la2, sa2, lc2, sc2, rfl, ⟨rfl, HWl.out, HWs.out, fun a ha => Nat.lt_of_lt_of_le (HV.out.lb a ha) HSz.out, fun a ha => Nat.lt_of_lt_of_le (HV.out.sb a ha) HSz.out⟩, HNl.out.trans (HN1.out.mono HEZ.out.size), HNs.out.trans (HN2.out.mono HEZ.out.size), HE.out⟩)
  ·have HT5 := hid t5
   clear t5
   have HRr := hid (HRB.out HT5.out)
   skip
   go_wp2_with (go_call (rwho_any z hz1 hz2 _) as e w' ⟨rfl, r1, rfl⟩; rw [← HWh.out])
   go_call (rplace_any T B sl rm wh pv N HPl.out.hT HPl.out.hB HPl.out.hsl HPl.out.hrm _) as e w' ⟨rfl, r2, rfl⟩
   rw [← HF.out, ← HMo.out]
   generalize hX : ext _ r2 = X
   have hEZX : Ext Z X := by rw [← hX]; (show Ext _ _; repeat first | (with_reducible first | (refine xH ?_; assumption) | exact xR _ | refine xX ?_ _ | refine xA ?_ _) | refine xD ?_ | refine xN ?_ _ | exact xR _)
   have HEX := hid (HEZ.out.trans hEZX)
   have HX2 := hid (HZ2.out.of hEZX)
   have HX3 := hid (HZ3.out.of hEZX)
   have HX4 := hid (HZ4.out.of hEZX)
   have HX5 := hid (HZ5.out.of hEZX)
   have HX6 := hid (HZ6.out.of hEZX)
   clear hX
   clear k0 k1 k2 k3 k4 k5 k6 k7 kg kf d0 d1 d2 d3 d4 d5 d6 d7 d8 d9 d10 dg h0 h1 h2 h3 hgt
   clear HSZ HNl HNs HOl HOs
   have k0 := HX4.out.2.2 0 _ rfl
   have kg := HX4.out.1
   have kf := HX4.out.2.1
   go_upto_region 14 with fail
   generalize hZ : World.setCell _ _ _ = Z
   have HEZ := hid (show Ext w Z by rw [← hZ]; exact ((HEX.out).setCell (by show w.heap.size ≤ g + 1; omega) _))
   have HZ4 := hid (show Blk Z (g + 1) (rsL { s with ph := 2, met := (x, y, z), ld := [] } none sa 0 sc) by rw [← hZ]; exact ((HX4.out).set 0 (by simp) _))
   have HZ3 := hid (show Blk Z g (kdL T B sl rm (N : Int) pv K.ms.length K.ss.length K.os.length ma qa oa mc qc oc) by rw [← hZ]; exact ((HX3.out).other (by omega) _))
   have HZ2 := hid (show Blk Z (g + 1 + 1) [.int .i64 x, .int .u32 y, .int .u32 z, .bool ok] by rw [← hZ]; exact ((HX2.out).other (by omega) _))
   have HZ5 := hid (show Blk Z (g + 1 + 1 + 1) [.int .i64 0, .int .i64 0, .int .i64 0, .int .i64 0, .int .u32 0, .int .u32 0, .slice none 0 0, .slice none 0 0] by rw [← hZ]; exact ((HX5.out).other (by omega) _))
   have HZ6 := hid (show Blk Z (g + 1 + 1 + 1 + 1) [.int .i64 0, .int .i64 0, .int .i64 0, .int .u32 0, .int .u32 0, .int .i64 0, .int .u32 0, .int .u32 0] by rw [← hZ]; exact ((HX6.out).other (by omega) _))
   clear hZ
   skip
   have k0 := HZ4.out.2.2 0 _ rfl
   have k1 := HZ4.out.2.2 1 _ rfl
   have k2 := HZ4.out.2.2 2 _ rfl
   have k3 := HZ4.out.2.2 3 _ rfl
   have k4 := HZ4.out.2.2 4 _ rfl
   have k5 := HZ4.out.2.2 5 _ rfl
   have k6 := HZ4.out.2.2 6 _ rfl
   have k7 := HZ4.out.2.2 7 _ rfl
   have kg := HZ4.out.1
   have kf := HZ4.out.2.1
   have d0 := HZ3.out.2.2 0 _ rfl
   have d1 := HZ3.out.2.2 1 _ rfl
   have d2 := HZ3.out.2.2 2 _ rfl
   have d3 := HZ3.out.2.2 3 _ rfl
   have d4 := HZ3.out.2.2 4 _ rfl
   have d5 := HZ3.out.2.2 5 _ rfl
   have d6 := HZ3.out.2.2 6 _ rfl
   have d7 := HZ3.out.2.2 7 _ rfl
   have d8 := HZ3.out.2.2 8 _ rfl
   have d9 := HZ3.out.2.2 9 _ rfl
   have d10 := HZ3.out.2.2 10 _ rfl
   have dg := HZ3.out.1
   obtain ⟨h0, h1, h2, h3⟩ := HZ2.out.four
   have hgt := HZ2.out.1
   have HSZ := hid (show Rv Z (.agg (rsL { s with ph := 2, met := (x, y, z), ld := [] } none sa 0 sc).toArray) { s with ph := 2, met := (x, y, z), ld := [] } none sa 0 sc from ⟨rfl, Sl.nil, HS.out.st.of locE_len HEZ.out, fun a ha => (by cases ha), fun a ha => Nat.lt_of_lt_of_le (HS.out.sb a ha) HEZ.out.size⟩)
   have HNl := hid (show Nw w.heap.size la none from nw_none)
   have HNs := hid (show Nw w.heap.size sa sa from nw_refl)
   have HOl := hid (show ∀ d : Addr, (none : Option Addr) = some d → d.block ≠ g + 1 + 1 + 1 ∧ d.block ≠ g + 1 + 1 + 1 + 1 from fun d hd => by cases hd)
   have HOs := hid (show ∀ d : Addr, (sa : Option Addr) = some d → d.block ≠ g + 1 + 1 + 1 ∧ d.block ≠ g + 1 + 1 + 1 + 1 from fun d hd => by have := HS.out.sb d hd; omega)
   have HZs := hid HZ6.out.1
   have HL_ := hid (fun w' (h : Ext Z w') => (And.intro (Nat.lt_of_lt_of_le kg h.size) (And.intro (h.cell k0) (And.intro (h.cell k1) (And.intro (h.cell k2) (And.intro (h.cell k3) (And.intro (h.cell k4) (And.intro (h.cell k5) (And.intro (h.cell k6) (h.cell k7))))))))))
   refine wp_region_facts [71, 72, 73, 74] [0, 1, 2, 3] rfl (fun w' => Ext Z w') (fsAt [IsV ?_, IsV ?_, IsV ?_, IsV (.agg (acE ((1 : Int), f', zW)).toArray)]) (by kernel_rfl) (by kernel_rfl) ((Ext.refl _).drew) (fun w w' h he => h.trans he) (AllOn.cons (fun _ _ _ h _ => h) (AllOn.cons (fun _ _ _ h _ => h) (AllOn.cons (fun _ _ _ h _ => h) (AllOn.cons (fun _ _ _ h _ => h) (AllOn.nil))))) (AllOn.cons ?_ (AllOn.cons ?_ (AllOn.cons ?_ (AllOn.cons ?_ (AllOn.nil))))) ?_
   rotate_left 3
   ·intro A w cx hO hD
    have e4 := evO hO 4 rfl
    clear hD hO
    refine head_val (o := ⟨_, _, _, _, _, _⟩) rfl ?_ rfl rfl ?_ ?_
    rotate_left 1
    ·simp [go_sem, e4, cx, HL_.out w cx]
     try with_reducible rfl
    ·exact IsV.mk (w := w)
   ·intro A w cx hO hD
    have e10 := evO hO 10 rfl
    clear hD hO
    refine head_val (o := ⟨_, _, _, _, _, _⟩) rfl ?_ rfl rfl ?_ ?_
    rotate_left 1
    ·simp [go_sem, e10, cx, HL_.out w cx]
     try with_reducible rfl
    ·exact IsV.mk (w := w)
   ·intro A w cx hO hD
    clear hD hO
    refine head_val (o := ⟨_, _, _, _, _, _⟩) rfl ?_ rfl rfl ?_ ?_
    rotate_left 1
    ·simp [go_sem, cx, HL_.out w cx]
     try with_reducible rfl
    ·exact IsV.mk (w := w)
   ·intro A w cx hO hD
    have e72 := evD (hD 1 (by kernel_rfl) 72 rfl)
    have e73 := evD (hD 2 (by kernel_rfl) 73 rfl)
    clear hD hO
    refine head_wp (o := ⟨_, _, _, _, _, _⟩) rfl rfl ?_
    simp [go_sem, e72, e73]
    refine (ract_any _ _ _ _ _ _).mono ?_
    rintro e w' ⟨rfl, r', rfl⟩
    exact ⟨_, rfl, ⟨r', rfl⟩, rfl⟩
   intro u wx hC hF
   obtain ⟨f0, f1, f2, f3, _⟩ := hF
   have g0 : u 0 = _ := f0
   have g1 : u 1 = _ := f1
   have g2 : u 2 = _ := f2
   have g3 : u 3 = _ := f3
   simp only [fPut, Nat.zero_add, Nat.reduceAdd, g0, g1, g2, g3, Act.put, List.setIfInBounds_toArray, List.set_cons_zero, List.set_cons_succ, List.length_cons, List.length_nil, List.drop_succ_cons, List.drop_zero]
   clear g0 g1 g2 g3 f0 f1 f2 f3
   have HEx := hid (HEZ.out.trans hC)
   have HBx5 := hid (HZ5.out.of hC)
   have HBx6 := hid (HZ6.out.of hC)
   have HV := hid (show Rv wx (.agg (rsL { s with ph := 2, met := (x, y, z), ld := [] } none sa 0 sc).toArray) { s with ph := 2, met := (x, y, z), ld := [] } none sa 0 sc from HSZ.out.of hC)
   have HN1 := hid (show Nw Z.heap.size none none from nw_refl)
   have HN2 := hid (show Nw Z.heap.size sa sa from nw_refl)
   clear hC
   clear k0 k1 k2 k3 k4 k5 k6 k7 kg kf d0 d1 d2 d3 d4 d5 d6 d7 d8 d9 d10 dg h0 h1 h2 h3 hgt
   have y1 := HBx5.out.1
   have y2' := HBx6.out.1
   have y3 := HBx5.out.2.1
   have y4 := HBx6.out.2.1
   obtain ⟨x0, x1, x2, x3, x4, x5, x6, x7⟩ := HBx5.out.eight
   obtain ⟨v0, v1, v2, v3, v4, v5, v6, v7⟩ := HBx6.out.eight
   simp only [acE, zW]
   (repeat (first | go_values | go_skip | go_guarded | go_step | go_upon | (simp only [Int.not_lt, Int.not_le] at *; go_simp) | (go_ite <;> go_prune <;> (try go_simp))))
   obtain ⟨W, hW, hW5, hW6, hWE, W1, hG1, hG2⟩ := st16 HBx5.out HBx6.out (by omega) (.int .i64 2) (.int .i64 s.i) (.int .i64 s.j) (.int .i64 x) (.int .u32 y) (.int .u32 z) (.slice none 0 0) (.slice sa s.st.length sc) (.int .i64 1) (.int .i64 f') (.int .i64 0) (.int .u32 0) (.int .u32 0) (.int .i64 0) (.int .u32 0) (.int .u32 0)
   rw [hW]
   have HE := hid (hWE w HEx.out (by omega) (by omega))
   have HSz := hid (Nat.le_trans hG1.size hG2.size)
   have HWl := hid (HV.out.ld.two wdE_len hG1 hG2 (HN1.out.ne2 (fun d hd => (HOl.out d hd).1) (by have := HZs.out; omega)) (HN1.out.ne2 (fun d hd => (HOl.out d hd).2) (by have := HZs.out; omega)))
   have HWs := hid (HV.out.st.two locE_len hG1 hG2 (HN2.out.ne2 (fun d hd => (HOs.out d hd).1) (by have := HZs.out; omega)) (HN2.out.ne2 (fun d hd => (HOs.out d hd).2) (by have := HZs.out; omega)))
   obtain ⟨r0, r1, r2, r3, r4, r5, r6, r7⟩ := hW5.eight
   obtain ⟨q0, q1, q2, q3, q4, q5, q6, q7⟩ := hW6.eight
   have w5 := hW5.1
   have w6 := hW6.1
   exact bodyPost_ret (v := .tuple #[.agg (rsL { s with ph := 2, met := (x, y, z), ld := [] } none sa 0 sc).toArray, .agg (acE ((1 : Int), f', zW)).toArray]) (by simp [results, Tryd.results7, go_sem, r0, r1, r2, r3, r4, r5, r6, r7, q0, q1, q2, q3, q4, q5, q6, q7, w5, w6, acE, zW]) rfl (by rw [HRr.out]; exact ⟨_, none, sa, 0, sc, rfl, ⟨rfl, HWl.out, HWs.out, fun a ha => Nat.lt_of_lt_of_le (HV.out.lb a ha) HSz.out, fun a ha => Nat.lt_of_lt_of_le (HV.out.sb a ha) HSz.out⟩, HNl.out.trans (HN1.out.mono HEZ.out.size), HNs.out.trans (HN2.out.mono HEZ.out.size), HE.out⟩)
end Go.Proofs.YtdpbcfjfnclpiaaDoor
