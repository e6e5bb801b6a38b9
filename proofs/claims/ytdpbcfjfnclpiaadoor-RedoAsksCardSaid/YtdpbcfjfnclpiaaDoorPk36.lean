/- Walk of the reference's Next (simulcastref25), phase 4. -/
import Derived.Test.YtdpbcfjfnclpiaaDoorPk32
namespace Go.Proofs.YtdpbcfjfnclpiaaDoor
set_option linter.unusedSimpArgs false
set_option linter.unusedVariables false
open Go.RowKit
set_option maxRecDepth 100000 in
set_option maxHeartbeats 10000000 in
theorem rn4_any {w : World} {K : RK} {N : Nat} {kv sv : Value} {s : RS} {T B sl rm : Int} {ws : List Bool} {pv : Value} {ma qa oa : Option Addr} {mc qc oc : Nat} (hk : Kw w kv K T B sl rm (N : Int) ws pv ma qa oa mc qc oc) {la sa : Option Addr} {lc sc : Nat} (hs : Rv w sv s la sa lc sc)
 (hP : PlOk K N T B sl rm ws) (hI : RnOk K N s) (x y z : Int) (ok : Bool) (hg : WdOk (x, y, z)) (hph : s.ph = 4) (hj : s.j < s.st.length) :
 Calls Tryd.prog 7 #[kv, sv, .agg #[.int .i64 x, .int .u32 y, .int .u32 z, .bool ok]] w (RPost w la sa (rNext K s (x, y, z))) := by
 have HK := hid hk
 have HS := hid hs
 have HPl := hid hP
 have HI := hid hI
 have HGk := hid hg
 have hkv := hk.val
 have hsv := hs.val
 clear hk hs hP hI hg
 subst hkv hsv
 have hsb := HI.out.st
 obtain ⟨q, hqq⟩ : ∃ q, q = s.j + 1 := ⟨_, rfl⟩
 have hw1 : wrap64 ((s.j : Int) + 1) = (q : Int) := by rw [IntWalk.wrap64_in _ ⟨by omega, by omega⟩]; omega
 have HQ := hid hqq
 clear hsb
 cases hq : s.st[q]? with
 | some p =>
  have hin := (List.getElem?_eq_some_iff.1 hq).1
  have hd : decide (q < s.st.length) = true := decide_eq_true hin
  have hii : (q : Int) < (s.st.length : Int) := by omega
  have HRr := hid (show rNext K s (x, y, z) = ({ s with j := q }, ((7 : Int), (p : Int), zW)) by rw [hqq] at hq ⊢; unfold rNext; simp [hph, hq])
  obtain ⟨hq0, bm, om, hab, hbm, hcm⟩ := Sl.at HS.out.st hq
  have c0 := hcm 0 (by omega)
  simp [locE] at c0
  subst hab
  clear hcm hq0 hq hqq
  go_enter Tryd.func7, Tryd.ntmps7
  go_upto_region 1 with fail
  generalize hU : World.alloc _ _ = U
  have HEU := hid (show Ext w U by rw [← hU]; (show Ext _ _; repeat first | (with_reducible first | (refine xH ?_; assumption) | exact xR _ | refine xX ?_ _ | refine xA ?_ _) | refine xD ?_ | refine xN ?_ _ | exact xR _))
  have HB3 := hid (show Blk U w.heap.size (kdL T B sl rm (N : Int) pv K.ms.length K.ss.length K.os.length ma qa oa mc qc oc) by rw [← hU]; (show Blk _ _ _; repeat first | (with_reducible first | (refine xH ?_; assumption) | refine bD ?_ | refine bX ?_ _) | (with_reducible refine bN _ _ rfl ?_; first | with_reducible rfl | (simp; done)) | (with_reducible first | refine bA ?_ _ | assumption | apply bS) | (with_reducible refine bO ?_ ?_; first | omega | (simp; omega)) | (show List.set _ _ _ = _; exact rfl) | (show _ < List.length _; simp; done)))
  have HB4 := hid (show Blk U (w.heap.size + 1) (rsL s la (some ⟨bm, om, none⟩) lc sc) by rw [← hU]; (show Blk _ _ _; repeat first | (with_reducible first | (refine xH ?_; assumption) | refine bD ?_ | refine bX ?_ _) | (with_reducible refine bN _ _ rfl ?_; first | with_reducible rfl | (simp; done)) | (with_reducible first | refine bA ?_ _ | assumption | apply bS) | (with_reducible refine bO ?_ ?_; first | omega | (simp; omega)) | (show List.set _ _ _ = _; exact rfl) | (show _ < List.length _; simp; done)))
  have HB2 := hid (show Blk U (w.heap.size + 1 + 1) [.int .i64 x, .int .u32 y, .int .u32 z, .bool ok] by rw [← hU]; (show Blk _ _ _; repeat first | (with_reducible first | (refine xH ?_; assumption) | refine bD ?_ | refine bX ?_ _) | (with_reducible refine bN _ _ rfl ?_; first | with_reducible rfl | (simp; done)) | (with_reducible first | refine bA ?_ _ | assumption | apply bS) | (with_reducible refine bO ?_ ?_; first | omega | (simp; omega)) | (show List.set _ _ _ = _; exact rfl) | (show _ < List.length _; simp; done)))
  have HB5 := hid (show Blk U (w.heap.size + 1 + 1 + 1) [.int .i64 0, .int .i64 0, .int .i64 0, .int .i64 0, .int .u32 0, .int .u32 0, .slice none 0 0, .slice none 0 0] by rw [← hU]; (show Blk _ _ _; repeat first | (with_reducible first | (refine xH ?_; assumption) | refine bD ?_ | refine bX ?_ _) | (with_reducible refine bN _ _ rfl ?_; first | with_reducible rfl | (simp; done)) | (with_reducible first | refine bA ?_ _ | assumption | apply bS) | (with_reducible refine bO ?_ ?_; first | omega | (simp; omega)) | (show List.set _ _ _ = _; exact rfl) | (show _ < List.length _; simp; done)))
  have HB6 := hid (show Blk U (w.heap.size + 1 + 1 + 1 + 1) [.int .i64 0, .int .i64 0, .int .i64 0, .int .u32 0, .int .u32 0, .int .i64 0, .int .u32 0, .int .u32 0] by rw [← hU]; (show Blk _ _ _; repeat first | (with_reducible first | (refine xH ?_; assumption) | refine bD ?_ | refine bX ?_ _) | (with_reducible refine bN _ _ rfl ?_; first | with_reducible rfl | (simp; done)) | (with_reducible first | refine bA ?_ _ | assumption | apply bS) | (with_reducible refine bO ?_ ?_; first | omega | (simp; omega)) | (show List.set _ _ _ = _; exact rfl) | (show _ < List.length _; simp; done)))
  clear hU
  obtain ⟨g, hgg⟩ : ∃ g, g = w.heap.size := ⟨_, rfl⟩
  have HGw := hid (show w.heap.size = g from hgg.symm)
  rw [← hgg] at HB2 HB3 HB4 HB5 HB6
  simp only [← hgg]
  have hwg : w.heap.size ≤ g := by omega
  clear hgg
  have HSU := hid (show Rv U (.agg (rsL s la (some ⟨bm, om, none⟩) lc sc).toArray) s la (some ⟨bm, om, none⟩) lc sc from HS.out.of HEU.out)
  have k0 := HB4.out.2.2 0 _ rfl
  have k1 := HB4.out.2.2 1 _ rfl
  have k2 := HB4.out.2.2 2 _ rfl
  have k3 := HB4.out.2.2 3 _ rfl
  have k4 := HB4.out.2.2 4 _ rfl
  have k5 := HB4.out.2.2 5 _ rfl
  have k6 := HB4.out.2.2 6 _ rfl
  have k7 := HB4.out.2.2 7 _ rfl
  have kg := HB4.out.1
  have kf := HB4.out.2.1
  have d0 := HB3.out.2.2 0 _ rfl
  have d1 := HB3.out.2.2 1 _ rfl
  have d2 := HB3.out.2.2 2 _ rfl
  have d3 := HB3.out.2.2 3 _ rfl
  have d4 := HB3.out.2.2 4 _ rfl
  have d5 := HB3.out.2.2 5 _ rfl
  have d6 := HB3.out.2.2 6 _ rfl
  have d7 := HB3.out.2.2 7 _ rfl
  have d8 := HB3.out.2.2 8 _ rfl
  have d9 := HB3.out.2.2 9 _ rfl
  have d10 := HB3.out.2.2 10 _ rfl
  have dg := HB3.out.1
  obtain ⟨h0, h1, h2, h3⟩ := HB2.out.four
  have hgt := HB2.out.1
  rw [hph] at k0
  have HPh := hid hph
  clear hph
  have u0 := HEU.out.cell c0
  go_upto_region 32 with fail
  generalize hZ : World.setCell _ _ _ = Z
  have HEZ := hid (show Ext w Z by rw [← hZ]; exact ((HEU.out).setCell (by show w.heap.size ≤ g + 1; omega) _))
  have HZ4 := hid (show Blk Z (g + 1) (rsL { s with j := q } la (some ⟨bm, om, none⟩) lc sc) by rw [← hZ]; exact ((HB4.out).set 2 (by simp) _))
  have HZ3 := hid (show Blk Z g (kdL T B sl rm (N : Int) pv K.ms.length K.ss.length K.os.length ma qa oa mc qc oc) by rw [← hZ]; exact ((HB3.out).other (by omega) _))
  have HZ2 := hid (show Blk Z (g + 1 + 1) [.int .i64 x, .int .u32 y, .int .u32 z, .bool ok] by rw [← hZ]; exact ((HB2.out).other (by omega) _))
  have HZ5 := hid (show Blk Z (g + 1 + 1 + 1) [.int .i64 0, .int .i64 0, .int .i64 0, .int .i64 0, .int .u32 0, .int .u32 0, .slice none 0 0, .slice none 0 0] by rw [← hZ]; exact ((HB5.out).other (by omega) _))
  have HZ6 := hid (show Blk Z (g + 1 + 1 + 1 + 1) [.int .i64 0, .int .i64 0, .int .i64 0, .int .u32 0, .int .u32 0, .int .i64 0, .int .u32 0, .int .u32 0] by rw [← hZ]; exact ((HB6.out).other (by omega) _))
  clear hZ
  clear k0 k1 k2 k3 k4 k5 k6 k7 kg kf d0 d1 d2 d3 d4 d5 d6 d7 d8 d9 d10 dg h0 h1 h2 h3 hgt
  have k0 := HZ4.out.2.2 0 _ rfl
  have k1 := HZ4.out.2.2 1 _ rfl
  have k2 := HZ4.out.2.2 2 _ rfl
  have k3 := HZ4.out.2.2 3 _ rfl
  have k4 := HZ4.out.2.2 4 _ rfl
  have k5 := HZ4.out.2.2 5 _ rfl
  have k6 := HZ4.out.2.2 6 _ rfl
  have k7 := HZ4.out.2.2 7 _ rfl
  have kg := HZ4.out.1
  have kf := HZ4.out.2.1
  have d0 := HZ3.out.2.2 0 _ rfl
  have d1 := HZ3.out.2.2 1 _ rfl
  have d2 := HZ3.out.2.2 2 _ rfl
  have d3 := HZ3.out.2.2 3 _ rfl
  have d4 := HZ3.out.2.2 4 _ rfl
  have d5 := HZ3.out.2.2 5 _ rfl
  have d6 := HZ3.out.2.2 6 _ rfl
  have d7 := HZ3.out.2.2 7 _ rfl
  have d8 := HZ3.out.2.2 8 _ rfl
  have d9 := HZ3.out.2.2 9 _ rfl
  have d10 := HZ3.out.2.2 10 _ rfl
  have dg := HZ3.out.1
  obtain ⟨h0, h1, h2, h3⟩ := HZ2.out.four
  have hgt := HZ2.out.1
  have HSZ := hid (show Rv Z (.agg (rsL { s with j := q } la (some ⟨bm, om, none⟩) lc sc).toArray) { s with j := q } la (some ⟨bm, om, none⟩) lc sc from ⟨rfl, HS.out.ld.of wdE_len HEZ.out, HS.out.st.of locE_len HEZ.out, fun a ha => Nat.lt_of_lt_of_le (HS.out.lb a ha) HEZ.out.size, fun a ha => Nat.lt_of_lt_of_le (HS.out.sb a ha) HEZ.out.size⟩)
  have HNl := hid (show Nw w.heap.size la la from nw_refl)
  have HNs := hid (show Nw w.heap.size (some ⟨bm, om, none⟩) (some ⟨bm, om, none⟩) from nw_refl)
  have HOl := hid (show ∀ d : Addr, (la : Option Addr) = some d → d.block ≠ g + 1 + 1 + 1 ∧ d.block ≠ g + 1 + 1 + 1 + 1 from fun d hd => by have := HS.out.lb d hd; omega)
  have HOs := hid (show ∀ d : Addr, (some ⟨bm, om, none⟩ : Option Addr) = some d → d.block ≠ g + 1 + 1 + 1 ∧ d.block ≠ g + 1 + 1 + 1 + 1 from fun d hd => by have := HS.out.sb d hd; omega)
  have zc := HEZ.out.cell c0
  have zcg := Nat.lt_of_lt_of_le hbm HEZ.out.size
  have HZs := hid HZ6.out.1
  have HL_ := hid (fun w' (h : Ext Z w') => (And.intro (Nat.lt_of_lt_of_le kg h.size) (And.intro (Nat.lt_of_lt_of_le zcg h.size) (And.intro (h.cell k0) (And.intro (h.cell k1) (And.intro (h.cell k2) (And.intro (h.cell k3) (And.intro (h.cell k4) (And.intro (h.cell k5) (And.intro (h.cell k6) (And.intro (h.cell k7) (h.cell zc))))))))))))
  refine wp_region_facts [170, 171, 172, 173, 174, 175, 176, 177, 178] [0, 1, 2, 3, 4, 5, 6, 7, 8] rfl (fun w' => Ext Z w') (fsAt [IsV ?_, IsV ?_, IsV ?_, IsV ?_, IsV ?_, IsV ?_, IsV ?_, IsV ?_, IsV (.agg (acE ((7 : Int), (p : Int), zW)).toArray)]) (by kernel_rfl) (by kernel_rfl) ((Ext.refl _).drew) (fun w w' h he => h.trans he) (AllOn.cons (fun _ _ _ h _ => h) (AllOn.cons (fun _ _ _ h _ => h) (AllOn.cons (fun _ _ _ h _ => h) (AllOn.cons (fun _ _ _ h _ => h) (AllOn.cons (fun _ _ _ h _ => h) (AllOn.cons (fun _ _ _ h _ => h) (AllOn.cons (fun _ _ _ h _ => h) (AllOn.cons (fun _ _ _ h _ => h) (AllOn.cons (fun _ _ _ h _ => h) (AllOn.nil)))))))))) (AllOn.cons ?_ (AllOn.cons ?_ (AllOn.cons ?_ (AllOn.cons ?_ (AllOn.cons ?_ (AllOn.cons ?_ (AllOn.cons ?_ (AllOn.cons ?_ (AllOn.cons ?_ (AllOn.nil)))))))))) ?_
  rotate_left 8
  ·intro A w cx hO hD
   have e4 := evO hO 4 rfl
   clear hD hO
   refine head_val (o := ⟨_, _, _, _, _, _⟩) rfl ?_ rfl rfl ?_ ?_
   rotate_left 1
   ·simp [go_sem, e4, cx, HL_.out w cx, hin, hii]
    try with_reducible rfl
   ·exact IsV.mk (w := w)
  ·intro A w cx hO hD
   have e4 := evO hO 4 rfl
   clear hD hO
   refine head_val (o := ⟨_, _, _, _, _, _⟩) rfl ?_ rfl rfl ?_ ?_
   rotate_left 1
   ·simp [go_sem, e4, cx, HL_.out w cx, hin, hii]
    try with_reducible rfl
   ·exact IsV.mk (w := w)
  ·intro A w cx hO hD
   have e171 := evD (hD 1 (by kernel_rfl) 171 rfl)
   clear hD hO
   refine head_val (o := ⟨_, _, _, _, _, _⟩) rfl ?_ rfl rfl ?_ ?_
   rotate_left 1
   ·simp [go_sem, e171, cx, HL_.out w cx, hin, hii]
    try with_reducible rfl
   ·exact IsV.mk (w := w)
  ·intro A w cx hO hD
   have e4 := evO hO 4 rfl
   clear hD hO
   refine head_val (o := ⟨_, _, _, _, _, _⟩) rfl ?_ rfl rfl ?_ ?_
   rotate_left 1
   ·simp [go_sem, e4, cx, HL_.out w cx, hin, hii]
    try with_reducible rfl
   ·exact IsV.mk (w := w)
  ·intro A w cx hO hD
   have e173 := evD (hD 3 (by kernel_rfl) 173 rfl)
   clear hD hO
   refine head_val (o := ⟨_, _, _, _, _, _⟩) rfl ?_ rfl rfl ?_ ?_
   rotate_left 1
   ·simp [go_sem, e173, cx, HL_.out w cx, hin, hii]
    try with_reducible rfl
   ·exact IsV.mk (w := w)
  ·intro A w cx hO hD
   have e172 := evD (hD 2 (by kernel_rfl) 172 rfl)
   have e174 := evD (hD 4 (by kernel_rfl) 174 rfl)
   clear hD hO
   refine head_val (o := ⟨_, _, _, _, _, _⟩) rfl ?_ rfl rfl ?_ ?_
   rotate_left 1
   ·simp [go_sem, e172, e174, cx, HL_.out w cx, hin, hii]
    try with_reducible rfl
   ·exact IsV.mk (w := w)
  ·intro A w cx hO hD
   have e175 := evD (hD 5 (by kernel_rfl) 175 rfl)
   clear hD hO
   refine head_val (o := ⟨_, _, _, _, _, _⟩) rfl ?_ rfl rfl ?_ ?_
   rotate_left 1
   ·simp [go_sem, e175, cx, HL_.out w cx, hin, hii]
    try with_reducible rfl
   ·exact IsV.mk (w := w)
  ·intro A w cx hO hD
   clear hD hO
   refine head_val (o := ⟨_, _, _, _, _, _⟩) rfl ?_ rfl rfl ?_ ?_
   rotate_left 1
   ·simp [go_sem, cx, HL_.out w cx, hin, hii]
    try with_reducible rfl
   ·exact IsV.mk (w := w)
  ·intro A w cx hO hD
   have e176 := evD (hD 6 (by kernel_rfl) 176 rfl)
   have e177 := evD (hD 7 (by kernel_rfl) 177 rfl)
   clear hD hO
   refine head_wp (o := ⟨_, _, _, _, _, _⟩) rfl rfl ?_
   simp [go_sem, e176, e177]
   refine (ract_any _ _ _ _ _ _).mono ?_
   rintro e w' ⟨rfl, r', rfl⟩
   exact ⟨_, rfl, ⟨r', rfl⟩, rfl⟩
  intro u wx hC hF
  obtain ⟨f0, f1, f2, f3, f4, f5, f6, f7, f8, _⟩ := hF
  have g0 : u 0 = _ := f0
  have g1 : u 1 = _ := f1
  have g2 : u 2 = _ := f2
  have g3 : u 3 = _ := f3
  have g4 : u 4 = _ := f4
  have g5 : u 5 = _ := f5
  have g6 : u 6 = _ := f6
  have g7 : u 7 = _ := f7
  have g8 : u 8 = _ := f8
  simp only [fPut, Nat.zero_add, Nat.reduceAdd, g0, g1, g2, g3, g4, g5, g6, g7, g8, Act.put, List.setIfInBounds_toArray, List.set_cons_zero, List.set_cons_succ, List.length_cons, List.length_nil, List.drop_succ_cons, List.drop_zero]
  clear g0 g1 g2 g3 g4 g5 g6 g7 g8 f0 f1 f2 f3 f4 f5 f6 f7 f8
  have HEx := hid (HEZ.out.trans hC)
  have HBx5 := hid (HZ5.out.of hC)
  have HBx6 := hid (HZ6.out.of hC)
  have HV := hid (show Rv wx (.agg (rsL { s with j := q } la (some ⟨bm, om, none⟩) lc sc).toArray) { s with j := q } la (some ⟨bm, om, none⟩) lc sc from HSZ.out.of hC)
  have HN1 := hid (show Nw Z.heap.size la la from nw_refl)
  have HN2 := hid (show Nw Z.heap.size (some ⟨bm, om, none⟩) (some ⟨bm, om, none⟩) from nw_refl)
  clear hC
  clear k0 k1 k2 k3 k4 k5 k6 k7 kg kf d0 d1 d2 d3 d4 d5 d6 d7 d8 d9 d10 dg h0 h1 h2 h3 hgt
  have y1 := HBx5.out.1
  have y2' := HBx6.out.1
  have y3 := HBx5.out.2.1
  have y4 := HBx6.out.2.1
  obtain ⟨x0, x1, x2, x3, x4, x5, x6, x7⟩ := HBx5.out.eight
  obtain ⟨v0, v1, v2, v3, v4, v5, v6, v7⟩ := HBx6.out.eight
  simp only [acE, zW]
  (repeat (first | go_values | go_skip | go_guarded | go_step | go_upon | (simp only [Int.not_lt, Int.not_le] at *; go_simp) | (go_ite <;> go_prune <;> (try go_simp))))
  obtain ⟨W, hW, hW5, hW6, hWE, W1, hG1, hG2⟩ := st16 HBx5.out HBx6.out (by omega) (.int .i64 s.ph) (.int .i64 s.i) (.int .i64 q) (.int .i64 s.met.1) (.int .u32 s.met.2.1) (.int .u32 s.met.2.2) (.slice la s.ld.length lc) (.slice (some ⟨bm, om, none⟩) s.st.length sc) (.int .i64 7) (.int .i64 (p : Int)) (.int .i64 0) (.int .u32 0) (.int .u32 0) (.int .i64 0) (.int .u32 0) (.int .u32 0)
  rw [hW]
  have HE := hid (hWE w HEx.out (by omega) (by omega))
  have HSz := hid (Nat.le_trans hG1.size hG2.size)
  have HWl := hid (HV.out.ld.two wdE_len hG1 hG2 (HN1.out.ne2 (fun d hd => (HOl.out d hd).1) (by have := HZs.out; omega)) (HN1.out.ne2 (fun d hd => (HOl.out d hd).2) (by have := HZs.out; omega)))
  have HWs := hid (HV.out.st.two locE_len hG1 hG2 (HN2.out.ne2 (fun d hd => (HOs.out d hd).1) (by have := HZs.out; omega)) (HN2.out.ne2 (fun d hd => (HOs.out d hd).2) (by have := HZs.out; omega)))
  obtain ⟨r0, r1, r2, r3, r4, r5, r6, r7⟩ := hW5.eight
  obtain ⟨q0, q1, q2, q3, q4, q5, q6, q7⟩ := hW6.eight
  have w5 := hW5.1
  have w6 := hW6.1
  exact bodyPost_ret (v := .tuple #[.agg (rsL { s with j := q } la (some ⟨bm, om, none⟩) lc sc).toArray, .agg (acE ((7 : Int), (p : Int), zW)).toArray]) (by simp [results, Tryd.results7, go_sem, r0, r1, r2, r3, r4, r5, r6, r7, q0, q1, q2, q3, q4, q5, q6, q7, w5, w6, acE, zW]) rfl (by rw [HRr.out]; exact ⟨_, la, (some ⟨bm, om, none⟩), lc, sc, rfl, ⟨rfl, HWl.out, HWs.out, fun a ha => Nat.lt_of_lt_of_le (HV.out.lb a ha) HSz.out, fun a ha => Nat.lt_of_lt_of_le (HV.out.sb a ha) HSz.out⟩, HNl.out.trans (HN1.out.mono HEZ.out.size), HNs.out.trans (HN2.out.mono HEZ.out.size), HE.out⟩)
 | none =>
  have hin := List.getElem?_eq_none_iff.1 hq
  have hd : decide (q < s.st.length) = false := decide_eq_false (by omega)
  have hii : ¬ (q : Int) < (s.st.length : Int) := by omega
  have HRr := hid (show rNext K s (x, y, z) = ({ s with j := q, ph := 5 }, ((8 : Int), (0 : Int), zW)) by rw [hqq] at hq ⊢; unfold rNext; simp [hph, hq])
  clear hq hqq
  go_enter Tryd.func7, Tryd.ntmps7
  go_upto_region 1 with fail
  generalize hU : World.alloc _ _ = U
  have HEU := hid (show Ext w U by rw [← hU]; (show Ext _ _; repeat first | (with_reducible first | (refine xH ?_; assumption) | exact xR _ | refine xX ?_ _ | refine xA ?_ _) | refine xD ?_ | refine xN ?_ _ | exact xR _))
  have HB3 := hid (show Blk U w.heap.size (kdL T B sl rm (N : Int) pv K.ms.length K.ss.length K.os.length ma qa oa mc qc oc) by rw [← hU]; (show Blk _ _ _; repeat first | (with_reducible first | (refine xH ?_; assumption) | refine bD ?_ | refine bX ?_ _) | (with_reducible refine bN _ _ rfl ?_; first | with_reducible rfl | (simp; done)) | (with_reducible first | refine bA ?_ _ | assumption | apply bS) | (with_reducible refine bO ?_ ?_; first | omega | (simp; omega)) | (show List.set _ _ _ = _; exact rfl) | (show _ < List.length _; simp; done)))
  have HB4 := hid (show Blk U (w.heap.size + 1) (rsL s la sa lc sc) by rw [← hU]; (show Blk _ _ _; repeat first | (with_reducible first | (refine xH ?_; assumption) | refine bD ?_ | refine bX ?_ _) | (with_reducible refine bN _ _ rfl ?_; first | with_reducible rfl | (simp; done)) | (with_reducible first | refine bA ?_ _ | assumption | apply bS) | (with_reducible refine bO ?_ ?_; first | omega | (simp; omega)) | (show List.set _ _ _ = _; exact rfl) | (show _ < List.length _; simp; done)))
  have HB2 := hid (show Blk U (w.heap.size + 1 + 1) [.int .i64 x, .int .u32 y, .int .u32 z, .bool ok] by rw [← hU]; (show Blk _ _ _; repeat first | (with_reducible first | (refine xH ?_; assumption) | refine bD ?_ | refine bX ?_ _) | (with_reducible refine bN _ _ rfl ?_; first | with_reducible rfl | (simp; done)) | (with_reducible first | refine bA ?_ _ | assumption | apply bS) | (with_reducible refine bO ?_ ?_; first | omega | (simp; omega)) | (show List.set _ _ _ = _; exact rfl) | (show _ < List.length _; simp; done)))
  have HB5 := hid (show Blk U (w.heap.size + 1 + 1 + 1) [.int .i64 0, .int .i64 0, .int .i64 0, .int .i64 0, .int .u32 0, .int .u32 0, .slice none 0 0, .slice none 0 0] by rw [← hU]; (show Blk _ _ _; repeat first | (with_reducible first | (refine xH ?_; assumption) | refine bD ?_ | refine bX ?_ _) | (with_reducible refine bN _ _ rfl ?_; first | with_reducible rfl | (simp; done)) | (with_reducible first | refine bA ?_ _ | assumption | apply bS) | (with_reducible refine bO ?_ ?_; first | omega | (simp; omega)) | (show List.set _ _ _ = _; exact rfl) | (show _ < List.length _; simp; done)))
  have HB6 := hid (show Blk U (w.heap.size + 1 + 1 + 1 + 1) [.int .i64 0, .int .i64 0, .int .i64 0, .int .u32 0, .int .u32 0, .int .i64 0, .int .u32 0, .int .u32 0] by rw [← hU]; (show Blk _ _ _; repeat first | (with_reducible first | (refine xH ?_; assumption) | refine bD ?_ | refine bX ?_ _) | (with_reducible refine bN _ _ rfl ?_; first | with_reducible rfl | (simp; done)) | (with_reducible first | refine bA ?_ _ | assumption | apply bS) | (with_reducible refine bO ?_ ?_; first | omega | (simp; omega)) | (show List.set _ _ _ = _; exact rfl) | (show _ < List.length _; simp; done)))
  clear hU
  obtain ⟨g, hgg⟩ : ∃ g, g = w.heap.size := ⟨_, rfl⟩
  have HGw := hid (show w.heap.size = g from hgg.symm)
  rw [← hgg] at HB2 HB3 HB4 HB5 HB6
  simp only [← hgg]
  have hwg : w.heap.size ≤ g := by omega
  clear hgg
  have HSU := hid (show Rv U (.agg (rsL s la sa lc sc).toArray) s la sa lc sc from HS.out.of HEU.out)
  have k0 := HB4.out.2.2 0 _ rfl
  have k1 := HB4.out.2.2 1 _ rfl
  have k2 := HB4.out.2.2 2 _ rfl
  have k3 := HB4.out.2.2 3 _ rfl
  have k4 := HB4.out.2.2 4 _ rfl
  have k5 := HB4.out.2.2 5 _ rfl
  have k6 := HB4.out.2.2 6 _ rfl
  have k7 := HB4.out.2.2 7 _ rfl
  have kg := HB4.out.1
  have kf := HB4.out.2.1
  have d0 := HB3.out.2.2 0 _ rfl
  have d1 := HB3.out.2.2 1 _ rfl
  have d2 := HB3.out.2.2 2 _ rfl
  have d3 := HB3.out.2.2 3 _ rfl
  have d4 := HB3.out.2.2 4 _ rfl
  have d5 := HB3.out.2.2 5 _ rfl
  have d6 := HB3.out.2.2 6 _ rfl
  have d7 := HB3.out.2.2 7 _ rfl
  have d8 := HB3.out.2.2 8 _ rfl
  have d9 := HB3.out.2.2 9 _ rfl
  have d10 := HB3.out.2.2 10 _ rfl
  have dg := HB3.out.1
  obtain ⟨h0, h1, h2, h3⟩ := HB2.out.four
  have hgt := HB2.out.1
  rw [hph] at k0
  have HPh := hid hph
  clear hph
  go_upto_region 34 with fail
  generalize hZ : World.setCell _ _ _ = Z
  have HEZ := hid (show Ext w Z by rw [← hZ]; exact ((((HEU.out).setCell (by show w.heap.size ≤ g + 1; omega) _)).setCell (by show w.heap.size ≤ g + 1; omega) _))
  have HZ4 := hid (show Blk Z (g + 1) (rsL { s with j := q, ph := 5 } la sa lc sc) by rw [← hZ]; exact ((((HB4.out).set 2 (by simp) _)).set 0 (by simp) _))
  have HZ3 := hid (show Blk Z g (kdL T B sl rm (N : Int) pv K.ms.length K.ss.length K.os.length ma qa oa mc qc oc) by rw [← hZ]; exact ((((HB3.out).other (by omega) _)).other (by omega) _))
  have HZ2 := hid (show Blk Z (g + 1 + 1) [.int .i64 x, .int .u32 y, .int .u32 z, .bool ok] by rw [← hZ]; exact ((((HB2.out).other (by omega) _)).other (by omega) _))
  have HZ5 := hid (show Blk Z (g + 1 + 1 + 1) [.int .i64 0, .int .i64 0, .int .i64 0, .int .i64 0, .int .u32 0, .int .u32 0, .slice none 0 0, .slice none 0 0] by rw [← hZ]; exact ((((HB5.out).other (by omega) _)).other (by omega) _))
  have HZ6 := hid (show Blk Z (g + 1 + 1 + 1 + 1) [.int .i64 0, .int .i64 0, .int .i64 0, .int .u32 0, .int .u32 0, .int .i64 0, .int .u32 0, .int .u32 0] by rw [← hZ]; exact ((((HB6.out).other (by omega) _)).other (by omega) _))
  clear hZ
  clear k0 k1 k2 k3 k4 k5 k6 k7 kg kf d0 d1 d2 d3 d4 d5 d6 d7 d8 d9 d10 dg h0 h1 h2 h3 hgt
  have k0 := HZ4.out.2.2 0 _ rfl
  have k1 := HZ4.out.2.2 1 _ rfl
  have k2 := HZ4.out.2.2 2 _ rfl
  have k3 := HZ4.out.2.2 3 _ rfl
  have k4 := HZ4.out.2.2 4 _ rfl
  have k5 := HZ4.out.2.2 5 _ rfl
  have k6 := HZ4.out.2.2 6 _ rfl
  have k7 := HZ4.out.2.2 7 _ rfl
  have kg := HZ4.out.1
  have kf := HZ4.out.2.1
  have d0 := HZ3.out.2.2 0 _ rfl
  have d1 := HZ3.out.2.2 1 _ rfl
  have d2 := HZ3.out.2.2 2 _ rfl
  have d3 := HZ3.out.2.2 3 _ rfl
  have d4 := HZ3.out.2.2 4 _ rfl
  have d5 := HZ3.out.2.2 5 _ rfl
  have d6 := HZ3.out.2.2 6 _ rfl
  have d7 := HZ3.out.2.2 7 _ rfl
  have d8 := HZ3.out.2.2 8 _ rfl
  have d9 := HZ3.out.2.2 9 _ rfl
  have d10 := HZ3.out.2.2 10 _ rfl
  have dg := HZ3.out.1
  obtain ⟨h0, h1, h2, h3⟩ := HZ2.out.four
  have hgt := HZ2.out.1
  have HSZ := hid (show Rv Z (.agg (rsL { s with j := q, ph := 5 } la sa lc sc).toArray) { s with j := q, ph := 5 } la sa lc sc from ⟨rfl, HS.out.ld.of wdE_len HEZ.out, HS.out.st.of locE_len HEZ.out, fun a ha => Nat.lt_of_lt_of_le (HS.out.lb a ha) HEZ.out.size, fun a ha => Nat.lt_of_lt_of_le (HS.out.sb a ha) HEZ.out.size⟩)
  have HNl := hid (show Nw w.heap.size la la from nw_refl)
  have HNs := hid (show Nw w.heap.size sa sa from nw_refl)
  have HOl := hid (show ∀ d : Addr, (la : Option Addr) = some d → d.block ≠ g + 1 + 1 + 1 ∧ d.block ≠ g + 1 + 1 + 1 + 1 from fun d hd => by have := HS.out.lb d hd; omega)
  have HOs := hid (show ∀ d : Addr, (sa : Option Addr) = some d → d.block ≠ g + 1 + 1 + 1 ∧ d.block ≠ g + 1 + 1 + 1 + 1 from fun d hd => by have := HS.out.sb d hd; omega)
  have HZs := hid HZ6.out.1
  have HEx := HEZ
  have HBx5 := HZ5
  have HBx6 := HZ6
  have HV := HSZ
  have HN1 := hid (show Nw Z.heap.size la la from nw_refl)
  have HN2 := hid (show Nw Z.heap.size sa sa from nw_refl)
  have y1 := HBx5.out.1
  have y2' := HBx6.out.1
  have y3 := HBx5.out.2.1
  have y4 := HBx6.out.2.1
  obtain ⟨x0, x1, x2, x3, x4, x5, x6, x7⟩ := HBx5.out.eight
  obtain ⟨v0, v1, v2, v3, v4, v5, v6, v7⟩ := HBx6.out.eight
  (repeat (first | go_values | go_skip | go_guarded | go_step | go_upon | (simp only [Int.not_lt, Int.not_le] at *; go_simp) | (go_ite <;> go_prune <;> (try go_simp))))
  obtain ⟨W, hW, hW5, hW6, hWE, W1, hG1, hG2⟩ := st16 HBx5.out HBx6.out (by omega) (.int .i64 5) (.int .i64 s.i) (.int .i64 q) (.int .i64 s.met.1) (.int .u32 s.met.2.1) (.int .u32 s.met.2.2) (.slice la s.ld.length lc) (.slice sa s.st.length sc) (.int .i64 8) (.int .i64 0) (.int .i64 0) (.int .u32 0) (.int .u32 0) (.int .i64 0) (.int .u32 0) (.int .u32 0)
  rw [hW]
  have HE := hid (hWE w HEx.out (by omega) (by omega))
  have HSz := hid (Nat.le_trans hG1.size hG2.size)
  have HWl := hid (HV.out.ld.two wdE_len hG1 hG2 (HN1.out.ne2 (fun d hd => (HOl.out d hd).1) (by have := HZs.out; omega)) (HN1.out.ne2 (fun d hd => (HOl.out d hd).2) (by have := HZs.out; omega)))
  have HWs := hid (HV.out.st.two locE_len hG1 hG2 (HN2.out.ne2 (fun d hd => (HOs.out d hd).1) (by have := HZs.out; omega)) (HN2.out.ne2 (fun d hd => (HOs.out d hd).2) (by have := HZs.out; omega)))
  obtain ⟨r0, r1, r2, r3, r4, r5, r6, r7⟩ := hW5.eight
  obtain ⟨q0, q1, q2, q3, q4, q5, q6, q7⟩ := hW6.eight
  have w5 := hW5.1
  have w6 := hW6.1
  exact bodyPost_ret (v := .tuple #[.agg (rsL { s with j := q, ph := 5 } la sa lc sc).toArray, .agg (acE ((8 : Int), (0 : Int), zW)).toArray]) (by simp [results, Tryd.results7, go_sem, r0, r1, r2, r3, r4, r5, r6, r7, q0, q1, q2, q3, q4, q5, q6, q7, w5, w6, acE, zW]) rfl (by rw [HRr.out]; exact ⟨_, la, sa, lc, sc, rfl, ⟨rfl, HWl.out, HWs.out, fun a ha => Nat.lt_of_lt_of_le (HV.out.lb a ha) HSz.out, fun a ha => Nat.lt_of_lt_of_le (HV.out.sb a ha) HSz.out⟩, HNl.out.trans (HN1.out.mono HEZ.out.size), HNs.out.trans (HN2.out.mono HEZ.out.size), HE.out⟩)
end Go.Proofs.YtdpbcfjfnclpiaaDoor
