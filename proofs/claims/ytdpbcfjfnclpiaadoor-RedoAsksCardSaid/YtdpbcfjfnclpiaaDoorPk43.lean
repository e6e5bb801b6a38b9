/- Walk of the reference's Next (simulcastref25), phase 11. The reference's Next, whatever its phase; what holds of its states. -/
import Derived.Test.YtdpbcfjfnclpiaaDoorPk32
import Derived.Test.YtdpbcfjfnclpiaaDoorPk33
import Derived.Test.YtdpbcfjfnclpiaaDoorPk34
import Derived.Test.YtdpbcfjfnclpiaaDoorPk35
import Derived.Test.YtdpbcfjfnclpiaaDoorPk36
import Derived.Test.YtdpbcfjfnclpiaaDoorPk37
import Derived.Test.YtdpbcfjfnclpiaaDoorPk38
import Derived.Test.YtdpbcfjfnclpiaaDoorPk39
import Derived.Test.YtdpbcfjfnclpiaaDoorPk40
import Derived.Test.YtdpbcfjfnclpiaaDoorPk41
import Derived.Test.YtdpbcfjfnclpiaaDoorPk42
namespace Go.Proofs.YtdpbcfjfnclpiaaDoor
set_option linter.unusedSimpArgs false
set_option linter.unusedVariables false
open Go.RowKit
set_option maxRecDepth 100000 in
set_option maxHeartbeats 10000000 in
theorem rn11_any {w : World} {K : RK} {N : Nat} {kv sv : Value} {s : RS} {T B sl rm : Int} {ws : List Bool} {pv : Value} {ma qa oa : Option Addr} {mc qc oc : Nat} (hk : Kw w kv K T B sl rm (N : Int) ws pv ma qa oa mc qc oc) {la sa : Option Addr} {lc sc : Nat} (hs : Rv w sv s la sa lc sc)
 (hP : PlOk K N T B sl rm ws) (hI : RnOk K N s) (x y z : Int) (ok : Bool) (hg : WdOk (x, y, z)) (hph : s.ph = 11) :
 Calls Tryd.prog 7 #[kv, sv, .agg #[.int .i64 x, .int .u32 y, .int .u32 z, .bool ok]] w (RPost w la sa (rNext K s (x, y, z))) := by
 have HK := hid hk
 have HS := hid hs
 have HPl := hid hP
 have HI := hid hI
 have HGk := hid hg
 have hkv := hk.val
 have hsv := hs.val
 clear hk hs hP hI hg
 subst hkv hsv
 go_enter Tryd.func7, Tryd.ntmps7
 go_upto_region 1 with fail
 generalize hU : World.alloc _ _ = U
 have HEU := hid (show Ext w U by rw [← hU]; (show Ext _ _; repeat first | (with_reducible first | (refine xH ?_; assumption) | exact xR _ | refine xX ?_ _ | refine xA ?_ _) | refine xD ?_ | refine xN ?_ _ | exact xR _))
 have HB3 := hid (show Blk U w.heap.size (kdL T B sl rm (N : Int) pv K.ms.length K.ss.length K.os.length ma qa oa mc qc oc) by rw [← hU]; (show Blk _ _ _; repeat first | (with_reducible first | (refine xH ?_; assumption) | refine bD ?_ | refine bX ?_ _) | (with_reducible refine bN _ _ rfl ?_; first | with_reducible rfl | (simp; done)) | (with_reducible first | refine bA ?_ _ | assumption | apply bS) | (with_reducible refine bO ?_ ?_; first | omega | (simp; omega)) | (show List.set _ _ _ = _; exact rfl) | (show _ < List.length _; simp; done)))
 have HB4 := hid (show Blk U (w.heap.size + 1) (rsL s la sa lc sc) by rw [← hU]; (show Blk _ _ _; repeat first | (with_reducible first | (refine xH ?_; assumption) | refine bD ?_ | refine bX ?_ _) | (with_reducible refine bN _ _ rfl ?_; first | with_reducible rfl | (simp; done)) | (with_reducible first | refine bA ?_ _ | assumption | apply bS) | (with_reducible refine bO ?_ ?_; first | omega | (simp; omega)) | (show List.set _ _ _ = _; exact rfl) | (show _ < List.length _; simp; done)))
 have HB2 := hid (show Blk U (w.heap.size + 1 + 1) [.int .i64 x, .int .u32 y, .int .u32 z, .bool ok] by rw [← hU]; (show Blk _ _ _; repeat first | (with_reducible first | (refine xH ?_; assumption) | refine bD ?_ | refine bX ?_ _) | (with_reducible refine bN _ _ rfl ?_; first | with_reducible rfl | (simp; done)) | (with_reducible first | refine bA ?_ _ | assumption | apply bS) | (with_reducible refine bO ?_ ?_; first | omega | (simp; omega)) | (show List.set _ _ _ = _; exact rfl) | (show _ < List.length _; simp; done)))
 have HB5 := hid (show Blk U (w.heap.size + 1 + 1 + 1) [.int .i64 0, .int .i64 0, .int .i64 0, .int .i64 0, .int .u32 0, .int .u32 0, .slice none 0 0, .slice none 0 0] by rw [← hU]; (show Blk _ _ _; repeat first | (with_reducible first | (refine xH ?_; assumption) | refine bD ?_ | refine bX ?_ _) | (with_reducible refine bN _ _ rfl ?_; first | with_reducible rfl | (simp; done)) | (with_reducible first | refine bA ?_ _ | assumption | apply bS) | (with_reducible refine bO ?_ ?_; first | omega | (simp; omega)) | (show List.set _ _ _ = _; exact rfl) | (show _ < List.length _; simp; done)))
 have HB6 := hid (show Blk U (w.heap.size + 1 + 1 + 1 + 1) [.int .i64 0, .int .i64 0, .int .i64 0, .int .u32 0, .int .u32 0, .int .i64 0, .int .u32 0, .int .u32 0] by rw [← hU]; (show Blk _ _ _; repeat first | (with_reducible first | (refine xH ?_; assumption) | refine bD ?_ | refine bX ?_ _) | (with_reducible refine bN _ _ rfl ?_; first | with_reducible rfl | (simp; done)) | (with_reducible first | refine bA ?_ _ | assumption | apply bS) | (with_reducible refine bO ?_ ?_; first | omega | (simp; omega)) | (show List.set _ _ _ = _; exact rfl) | (show _ < List.length _; simp; done)))
 clear hU
 obtain ⟨g, hgg⟩ : ∃ g, g = w.heap.size := ⟨_, rfl⟩
 have HGw := hid (show w.heap.size = g from hgg.symm)
 rw [← hgg] at HB2 HB3 HB4 HB5 HB6
 simp only [← hgg]
 have hwg : w.heap.size ≤ g := by omega
 clear hgg
 have HSU := hid (show Rv U (.agg (rsL s la sa lc sc).toArray) s la sa lc sc from HS.out.of HEU.out)
 have k0 := HB4.out.2.2 0 _ rfl
 have k1 := HB4.out.2.2 1 _ rfl
 have k2 := HB4.out.2.2 2 _ rfl
 have k3 := HB4.out.2.2 3 _ rfl
 have k4 := HB4.out.2.2 4 _ rfl
 have k5 := HB4.out.2.2 5 _ rfl
 have k6 := HB4.out.2.2 6 _ rfl
 have k7 := HB4.out.2.2 7 _ rfl
 have kg := HB4.out.1
 have kf := HB4.out.2.1
 have d0 := HB3.out.2.2 0 _ rfl
 have d1 := HB3.out.2.2 1 _ rfl
 have d2 := HB3.out.2.2 2 _ rfl
 have d3 := HB3.out.2.2 3 _ rfl
 have d4 := HB3.out.2.2 4 _ rfl
 have d5 := HB3.out.2.2 5 _ rfl
 have d6 := HB3.out.2.2 6 _ rfl
 have d7 := HB3.out.2.2 7 _ rfl
 have d8 := HB3.out.2.2 8 _ rfl
 have d9 := HB3.out.2.2 9 _ rfl
 have d10 := HB3.out.2.2 10 _ rfl
 have dg := HB3.out.1
 obtain ⟨h0, h1, h2, h3⟩ := HB2.out.four
 have hgt := HB2.out.1
 rw [hph] at k0
 have HPh := hid hph
 clear hph
 have HRr := hid (show rNext K s (x, y, z) = ({ s with ph := 12 }, (0, 0, zW)) by unfold rNext; simp [HPh.out])
 go_upto_region 55 with fail
 generalize hZ : World.setCell _ _ _ = Z
 have HEZ := hid (show Ext w Z by rw [← hZ]; exact ((HEU.out).setCell (by show w.heap.size ≤ g + 1; omega) _))
 have HZ4 := hid (show Blk Z (g + 1) (rsL { s with ph := 12 } la sa lc sc) by rw [← hZ]; exact ((HB4.out).set 0 (by simp) _))
 have HZ3 := hid (show Blk Z g (kdL T B sl rm (N : Int) pv K.ms.length K.ss.length K.os.length ma qa oa mc qc oc) by rw [← hZ]; exact ((HB3.out).other (by omega) _))
 have HZ2 := hid (show Blk Z (g + 1 + 1) [.int .i64 x, .int .u32 y, .int .u32 z, .bool ok] by rw [← hZ]; exact ((HB2.out).other (by omega) _))
 have HZ5 := hid (show Blk Z (g + 1 + 1 + 1) [.int .i64 0, .int .i64 0, .int .i64 0, .int .i64 0, .int .u32 0, .int .u32 0, .slice none 0 0, .slice none 0 0] by rw [← hZ]; exact ((HB5.out).other (by omega) _))
 have HZ6 := hid (show Blk Z (g + 1 + 1 + 1 + 1) [.int .i64 0, .int .i64 0, .int .i64 0, .int .u32 0, .int .u32 0, .int .i64 0, .int .u32 0, .int .u32 0] by rw [← hZ]; exact ((HB6.out).other (by omega) _))
 clear hZ
 clear k0 k1 k2 k3 k4 k5 k6 k7 kg kf d0 d1 d2 d3 d4 d5 d6 d7 d8 d9 d10 dg h0 h1 h2 h3 hgt
 have k0 := HZ4.out.2.2 0 _ rfl
 have k1 := HZ4.out.2.2 1 _ rfl
 have k2 := HZ4.out.2.2 2 _ rfl
 have k3 := HZ4.out.2.2 3 _ rfl
 have k4 := HZ4.out.2.2 4 _ rfl
 have k5 := HZ4.out.2.2 5 _ rfl
 have k6 := HZ4.out.2.2 6 _ rfl
 have k7 := HZ4.out.2.2 7 _ rfl
 have kg := HZ4.out.1
 have kf := HZ4.out.2.1
 have d0 := HZ3.out.2.2 0 _ rfl
 have d1 := HZ3.out.2.2 1 _ rfl
 have d2 := HZ3.out.2.2 2 _ rfl
 have d3 := HZ3.out.2.2 3 _ rfl
 have d4 := HZ3.out.2.2 4 _ rfl
 have d5 := HZ3.out.2.2 5 _ rfl
 have d6 := HZ3.out.2.2 6 _ rfl
 have d7 := HZ3.out.2.2 7 _ rfl
 have d8 := HZ3.out.2.2 8 _ rfl
 have d9 := HZ3.out.2.2 9 _ rfl
 have d10 := HZ3.out.2.2 10 _ rfl
 have dg := HZ3.out.1
 obtain ⟨h0, h1, h2, h3⟩ := HZ2.out.four
 have hgt := HZ2.out.1
 have HSZ := hid (show Rv Z (.agg (rsL { s with ph := 12 } la sa lc sc).toArray) { s with ph := 12 } la sa lc sc from ⟨rfl, HS.out.ld.of wdE_len HEZ.out, HS.out.st.of locE_len HEZ.out, fun a ha => Nat.lt_of_lt_of_le (HS.out.lb a ha) HEZ.out.size, fun a ha => Nat.lt_of_lt_of_le (HS.out.sb a ha) HEZ.out.size⟩)
 have HNl := hid (show Nw w.heap.size la la from nw_refl)
 have HNs := hid (show Nw w.heap.size sa sa from nw_refl)
 have HOl := hid (show ∀ d : Addr, (la : Option Addr) = some d → d.block ≠ g + 1 + 1 + 1 ∧ d.block ≠ g + 1 + 1 + 1 + 1 from fun d hd => by have := HS.out.lb d hd; omega)
 have HOs := hid (show ∀ d : Addr, (sa : Option Addr) = some d → d.block ≠ g + 1 + 1 + 1 ∧ d.block ≠ g + 1 + 1 + 1 + 1 from fun d hd => by have := HS.out.sb d hd; omega)
 have HZs := hid HZ6.out.1
 have HEx := HEZ
 have HBx5 := HZ5
 have HBx6 := HZ6
 have HV := HSZ
 have HN1 := hid (show Nw Z.heap.size la la from nw_refl)
 have HN2 := hid (show Nw Z.heap.size sa sa from nw_refl)
 have y1 := HBx5.out.1
 have y2' := HBx6.out.1
 have y3 := HBx5.out.2.1
 have y4 := HBx6.out.2.1
 obtain ⟨x0, x1, x2, x3, x4, x5, x6, x7⟩ := HBx5.out.eight
 obtain ⟨v0, v1, v2, v3, v4, v5, v6, v7⟩ := HBx6.out.eight
 (repeat (first | go_values | go_skip | go_guarded | go_step | go_upon | (simp only [Int.not_lt, Int.not_le] at *; go_simp) | (go_ite <;> go_prune <;> (try go_simp))))
 obtain ⟨W, hW, hW5, hW6, hWE, W1, hG1, hG2⟩ := st16 HBx5.out HBx6.out (by omega) (.int .i64 12) (.int .i64 s.i) (.int .i64 s.j) (.int .i64 s.met.1) (.int .u32 s.met.2.1) (.int .u32 s.met.2.2) (.slice la s.ld.length lc) (.slice sa s.st.length sc) (.int .i64 0) (.int .i64 0) (.int .i64 0) (.int .u32 0) (.int .u32 0) (.int .i64 0) (.int .u32 0) (.int .u32 0)
 rw [hW]
 have HE := hid (hWE w HEx.out (by omega) (by omega))
 have HSz := hid (Nat.le_trans hG1.size hG2.size)
 have HWl := hid (HV.out.ld.two wdE_len hG1 hG2 (HN1.out.ne2 (fun d hd => (HOl.out d hd).1) (by have := HZs.out; omega)) (HN1.out.ne2 (fun d hd => (HOl.out d hd).2) (by have := HZs.out; omega)))
 have HWs := hid (HV.out.st.two locE_len hG1 hG2 (HN2.out.ne2 (fun d hd => (HOs.out d hd).1) (by have := HZs.out; omega)) (HN2.out.ne2 (fun d hd => (HOs.out d hd).2) (by have := HZs.out; omega)))
 obtain ⟨r0, r1, r2, r3, r4, r5, r6, r7⟩ := hW5.eight
 obtain ⟨q0, q1, q2, q3, q4, q5, q6, q7⟩ := hW6.eight
 have w5 := hW5.1
 have w6 := hW6.1
 exact bodyPost_ret (v := .tuple #[.agg (rsL { s with ph := 12 } la sa lc sc).toArray, .agg (acE (0, 0, zW)).toArray]) (by simp [results, Tryd.results7, go_sem, r0, r1, r2, r3, r4, r5, r6, r7, q0, q1, q2, q3, q4, q5, q6, q7, w5, w6, acE, zW]) rfl (by rw [HRr.out]; exact ⟨_, la, sa, lc, sc, rfl, ⟨rfl, HWl.out, HWs.out, fun a ha => Nat.lt_of_lt_of_le (HV.out.lb a ha) HSz.out, fun a ha => Nat.lt_of_lt_of_le (HV.out.sb a ha) HSz.out⟩, HNl.out.trans (HN1.out.mono HEZ.out.size), HNs.out.trans (HN2.out.mono HEZ.out.size), HE.out⟩)
end Go.Proofs.YtdpbcfjfnclpiaaDoor
namespace Go.Proofs.YtdpbcfjfnclpiaaDoor
set_option linter.unusedSimpArgs false
set_option linter.unusedVariables false
open Go.RowKit
theorem rnext_all {w : World} {K : RK} {N : Nat} {kv sv : Value} {s : RS} {T B sl rm : Int} {ws : List Bool} {pv : Value} {ma qa oa : Option Addr} {mc qc oc : Nat} (hk : Kw w kv K T B sl rm (N : Int) ws pv ma qa oa mc qc oc) {la sa : Option Addr} {lc sc : Nat} (hs : Rv w sv s la sa lc sc)
 (hP : PlOk K N T B sl rm ws) (hKO : KOk K) (hI : RnOk K N s) (x y z : Int) (ok : Bool) (hg : WdOk (x, y, z)) (c : CS) (hR : Rel K c s) (h12 : s.ph ≠ 12) :
 Calls Tryd.prog 7 #[kv, sv, .agg #[.int .i64 x, .int .u32 y, .int .u32 z, .bool ok]] w (RPost w la sa (rNext K s (x, y, z))) := by
 cases hR with
 | p1 p h h0 hs' hp _ _ _ _ => exact rn1_any hk hs hP hI x y z ok hg h p hp
 | p2 p h h0 hs' hp _ _ _ hld hm hw ha hloaded hc =>
  have hr := hKO.room (whoN s.met.2.2).1
  have hr' : (0 ≤ (rPl K s).1 ↔ (rPl K s).2 ≠ 0) ∧ 0 ≤ (rPl K s).2 := hr
  have hpos : 0 < (rPl K s).2 := by have := hr'.1.1 ha; omega
  refine rn2_any hk hs hP hI x y z ok hg h p hp ⟨ha, hpos, ?_⟩
  rcases hc with ⟨_, h1, _⟩ | ⟨q, _, h1, _⟩ | ⟨q, _, _, h1, h2, _⟩
  ·rw [h1]; simp; omega
  ·rw [h1]; simp; omega
  ·omega
 | p3 h h0 hs' hp _ _ _ _ => exact rn3_any hk hs hP hI x y z ok hg h
 | p4 h he hst hs' hj _ _ _ _ _ => exact rn4_any hk hs hP hI x y z ok hg h hj
 | p5 h _ _ _ _ _ _ _ _ => exact rn5_any hk hs hP hI x y z ok hg h
 | p6 p h h0 hs' hp _ _ _ => exact rn6_any hk hs hP hI x y z ok hg h p hp
 | p7 h _ _ _ _ _ _ => exact rn7_any hk hs hP hI x y z ok hg h
 | p8 p h h0 hs' hp _ _ => exact rn8_any hk hs hP hI x y z ok hg h p hp
 | p9 h _ _ _ _ _ => exact rn9_any hk hs hP hI x y z ok hg h
 | p10 h he hst hs' hj _ _ => exact rn10_any hk hs hP hI x y z ok hg h hj
 | p11 h _ _ _ _ _ => exact rn11_any hk hs hP hI x y z ok hg h
 | p12 h _ => exact absurd h h12
structure Kp (s s' : RS) : Prop where
 i : s'.i ≤ s.i + 1
 st : s'.st.length ≤ s.st.length + 1
 ld : s'.ld.length ≤ s.ld.length + 1
 ldk : (∀ a ∈ s.ld, WdOk a) → ∀ a ∈ s'.ld, WdOk a
 metk : WdOk s.met → WdOk s'.met
theorem Kp.refl (s : RS) : Kp s s := ⟨by omega, by omega, by omega, fun h => h, fun h => h⟩
structure Ks (s s' : RS) : Prop where
 i : s'.i ≤ s.i
 st : s'.st.length ≤ s.st.length
 ld : s'.ld = s.ld
 met : s'.met = s.met
theorem own_ks (K : RK) (s : RS) : Ks s (rOwn K s).1 := by
 unfold rOwn; split
 ·exact ⟨Nat.le_refl _, Nat.le_refl _, rfl, rfl⟩
 ·split <;> exact ⟨Nat.le_refl _, Nat.le_refl _, rfl, rfl⟩
theorem status_ks (K : RK) (s : RS) : Ks s (rStatus K s).1 := by
 unfold rStatus; split
 ·exact ⟨Nat.le_refl _, Nat.le_refl _, rfl, rfl⟩
 ·have h := own_ks K { s with i := 0 }
  exact ⟨Nat.le_trans h.i (Nat.zero_le _), h.st, h.ld, h.met⟩
theorem word_ks (K : RK) (s : RS) : Ks s (rWord K s).1 := by
 unfold rWord; split
 ·exact ⟨Nat.le_refl _, Nat.le_refl _, rfl, rfl⟩
 ·split
  ·exact ⟨Nat.zero_le _, Nat.le_refl _, rfl, rfl⟩
  ·have h := status_ks K { s with i := 0, j := 0 }
   exact ⟨Nat.le_trans h.i (Nat.zero_le _), h.st, h.ld, h.met⟩
theorem store_kp (s : RS) (ph a : Nat) (x : Wd) : Kp s (rStore s ph a x).1 := ⟨Nat.le_succ _, by show (s.st ++ [a]).length ≤ _; simp, Nat.le_succ _, fun h => h, fun h => h⟩
theorem kp_of {s s1 s' : RS} (h : Ks s1 s') (hi : s1.i ≤ s.i + 1) (hst : s1.st.length ≤ s.st.length + 1) (hld : s1.ld = s.ld) (hm : s1.met = s.met) : Kp s s' :=
 ⟨Nat.le_trans h.i hi, Nat.le_trans h.st hst, by rw [h.ld, hld]; omega, fun k => by rw [h.ld, hld]; exact k, fun k => by rw [h.met, hm]; exact k⟩
theorem next_kp (K : RK) (s : RS) (g : Wd) (hg : WdOk g) : Kp s (rNext K s g).1 := by
 unfold rNext
 split
 ·exact kp_of (word_ks K s) (by omega) (by omega) rfl rfl
 split
 ·split
  ·exact kp_of (word_ks K _) (Nat.le_refl _) (by show s.st.length ≤ _; omega) rfl rfl
  ·dsimp only
   split
   ·unfold rPlain
    have h := store_kp { s with met := g, ld := [] } 3 (K.ms.getD s.i 0) (K.lg (rImg K { s with met := g, ld := [] } (K.ms.getD s.i 0)) (K.ms.getD s.i 0))
    exact ⟨h.i, h.st, Nat.le_trans h.ld (by simp), fun _ => h.ldk (fun a ha => by cases ha), fun _ => h.metk hg⟩
   ·exact ⟨Nat.le_succ _, Nat.le_succ _, Nat.zero_le _, fun _ a ha => (by cases ha), fun _ => hg⟩
 split
 ·have hl : (s.ld ++ [g]).length = s.ld.length + 1 := by simp
  have hk : (∀ a ∈ s.ld, WdOk a) → ∀ a ∈ s.ld ++ [g], WdOk a := fun h a ha => by
   rcases List.mem_append.1 ha with h1 | h1
   ·exact h a h1
   ·rw [List.mem_singleton.1 h1]; exact hg
  dsimp only
  split
  ·exact ⟨Nat.le_succ _, Nat.le_succ _, Nat.le_of_eq hl, hk, fun h => h⟩
  ·unfold rPlain rStore
   exact ⟨Nat.le_succ _, by show (s.st ++ [_]).length ≤ _; simp, Nat.le_of_eq hl, hk, fun h => h⟩
 split
 ·exact kp_of (word_ks K _) (Nat.le_refl _) (by show s.st.length ≤ _; omega) rfl rfl
 split
 ·split <;> exact ⟨Nat.le_succ _, Nat.le_succ _, Nat.le_succ _, fun h => h, fun h => h⟩
 split
 ·exact kp_of (status_ks K _) (Nat.le_succ _) (Nat.zero_le _) rfl rfl
 split
 ·split
  ·exact store_kp _ _ _ _
  ·exact kp_of (status_ks K _) (Nat.le_refl _) (by show s.st.length ≤ _; omega) rfl rfl
 split
 ·exact kp_of (status_ks K _) (Nat.le_refl _) (by show s.st.length ≤ _; omega) rfl rfl
 split
 ·split
  ·exact kp_of (own_ks K _) (Nat.le_refl _) (by show s.st.length ≤ _; omega) rfl rfl
  ·exact store_kp _ _ _ _
 split
 ·exact kp_of (own_ks K _) (Nat.le_refl _) (by show s.st.length ≤ _; omega) rfl rfl
 ·exact ⟨Nat.le_succ _, Nat.le_succ _, Nat.le_succ _, fun h => h, fun h => h⟩
end Go.Proofs.YtdpbcfjfnclpiaaDoor
