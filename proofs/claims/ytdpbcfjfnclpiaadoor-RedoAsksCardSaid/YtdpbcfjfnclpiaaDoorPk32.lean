/- Walks of the reference's Next (simulcastref25), phase by phase. Walk of the reference's Next (simulcastref25), phase 0. -/
import Derived.Test.YtdpbcfjfnclpiaaDoorPk31
namespace Go.Proofs.YtdpbcfjfnclpiaaDoor
set_option linter.unusedSimpArgs false
set_option linter.unusedVariables false
open Go.RowKit
theorem Nw.ne2 {z : Nat} {a a2 : Option Addr} (h : Nw z a a2) {b : Nat} (ha : ∀ d, a = some d → d.block ≠ b) (hz : b < z) : ∀ d, a2 = some d → d.block ≠ b := by
 intro d hd
 rcases h with h | h | ⟨d', h, k⟩
 ·exact ha d (by rw [← h, hd])
 ·rw [h] at hd; cases hd
 ·rw [h] at hd; cases hd; omega
theorem Nw.trans {z : Nat} {a b c : Option Addr} (h : Nw z a b) (k : Nw z b c) : Nw z a c := by
 rcases k with k | k | k
 ·rw [k]; exact h
 ·exact .inr (.inl k)
 ·exact .inr (.inr k)
theorem nw_none {z : Nat} {a : Option Addr} : Nw z a none := .inr (.inl rfl)
theorem nw_refl {z : Nat} {a : Option Addr} : Nw z a a := .inl rfl
theorem run_app_zero (P : Program) (w : World) (t ty e : TypeId) (i : TypeInfo) (ht : P.underlying t = some (.slice e)) (hi : P.info? e = some i) (q xa : Option Addr) (xc : Nat) :
 (Builtin.append_ #[t, t] ty #[.slice q 0 0, .slice xa 0 xc]).run P w = .ok (.slice q 0 0) w := by
 cases xa <;> cases q <;> simp [Builtin.append_, run_underlying ht, sizeOf, typeInfo, hi, Builtin.lenOf, Builtin.firstCells, storeCells, loadCells, loadCellsFrom]
theorem wd_app0_op {o : Oper} {a : Act} {K : Act → World → Prop} {Q : Exit → Act → World → Prop} {w : World}
 (s x : Operand) (ho : o.op = .call { callee := .builtin .append, args := #[s, x], argTypes := #[41, 41] })
 (q base : Nat) (hs : a.eval s = .slice (some ⟨q, 0, none⟩) 0 0) (hown : Ws w base (.slice (some ⟨q, 0, none⟩) 0 0) []) (hb : base ≤ w.heap.size)
 (xa : Option Addr) (m c : Nat) (hx : a.eval x = .slice xa m c) (news : List Wd) (hsl : Sl w 3 wdE (.slice xa m c) news)
 (hlen : m ≤ 1000000)
 (h : ∀ v' r, Ws (ext w r) base v' news → K (a.put o.dst v') (ext w r)) : Oper.wp Tryd.prog o a w K Q := by
 obtain ⟨i0, hi, hz0, hz1, hz2⟩ := info_parts Tryd.infoWord
 have hm : news.length = m := (hsl.capT.1).symm
 cases hn : news with
 | nil =>
  subst hn
  obtain rfl : m = 0 := by simpa using hm.symm
  have hr := run_app_zero Tryd.prog w 41 o.type 40 i0 Tryd.underlying41 hi (some ⟨q, 0, none⟩) xa c
  have he : w = ext w ⟨#[], w.drawn⟩ := ext_zero w
  unfold Oper.wp execOp
  simp only [ho, resolve, invoke, builtin, Sem.run_bind, Sem.run_pure, Result.andThen_ok, List.map_toArray, List.map_cons, List.map_nil, hs, hx, hr]
  have h2 := h (.slice (some ⟨q, 0, none⟩) 0 0) ⟨#[], w.drawn⟩ (by rw [← he]; exact hown)
  rw [← he] at h2
  exact h2
 | cons y r =>
  obtain ⟨_, b, o', hab, _⟩ := Sl.at hsl (i := 0) (x := y) (by rw [hn]; rfl)
  subst hab
  have h0 : Sl w 3 wdE (.slice (some ⟨q, 0, none⟩) 0 0) ([] : List Wd) := ⟨_, _, rfl, ⟨by simp, by simp⟩, fun hne => absurd rfl hne⟩
  refine app_clip_op (l := ([] : List Wd)) Tryd.underlying41 hi hz0 hz1 hz2 rfl (by decide) wdE_len s x ho hs h0 _ m c hx news hm (by rw [← hm, hn]; simp) (Sl.flat wdE_len (by omega) hsl) (by unfold maxLen; omega) (by omega) ?_
  intro v' r' hv
  rw [List.nil_append, hn] at hv
  exact h v' r' (by rw [hn]; exact Own.mono hv hb)
theorem rplace_pos {T B sl rm who : Int} (h1 : 0 ≤ sl ∧ sl ≤ 100000) (h2 : 0 ≤ rm ∧ rm ≤ 100000) (h : 0 < (rplaceN T B sl rm who).2) : 0 ≤ (rplaceN T B sl rm who).1 := by
 unfold rplaceN at h ⊢
 split
 ·dsimp only; omega
 ·split
  ·dsimp only; omega
  ·rename_i a b; rw [if_neg a, if_neg b] at h; dsimp only at h; omega
structure RnOk (K : RK) (N : Nat) (s : RS) : Prop where
 i : s.i ≤ 100000
 st : s.st.length ≤ 90000
 ld : s.ld.length ≤ 1000
 ldk : ∀ a ∈ s.ld, WdOk a
 metk : WdOk s.met
end Go.Proofs.YtdpbcfjfnclpiaaDoor
namespace Go.Proofs.YtdpbcfjfnclpiaaDoor
set_option linter.unusedSimpArgs false
set_option linter.unusedVariables false
open Go.RowKit
set_option maxRecDepth 100000 in
set_option maxHeartbeats 10000000 in
theorem rn0_any {w : World} {K : RK} {N : Nat} {kv sv : Value} {s : RS} {T B sl rm : Int} {ws : List Bool} {pv : Value} {ma qa oa : Option Addr} {mc qc oc : Nat} (hk : Kw w kv K T B sl rm (N : Int) ws pv ma qa oa mc qc oc) {la sa : Option Addr} {lc sc : Nat} (hs : Rv w sv s la sa lc sc)
 (hP : PlOk K N T B sl rm ws) (hI : RnOk K N s) (x y z : Int) (ok : Bool) (hg : WdOk (x, y, z)) (hph : s.ph = 0) :
 Calls Tryd.prog 7 #[kv, sv, .agg #[.int .i64 x, .int .u32 y, .int .u32 z, .bool ok]] w (RPost w la sa (rNext K s (x, y, z))) := by
 have HK := hid hk
 have HS := hid hs
 have HPl := hid hP
 have HI := hid hI
 have HGk := hid hg
 have hkv := hk.val
 have hsv := hs.val
 clear hk hs hP hI hg
 subst hkv hsv
 go_enter Tryd.func7, Tryd.ntmps7
 go_upto_region 1 with fail
 generalize hU : World.alloc _ _ = U
 have HEU := hid (show Ext w U by rw [← hU]; (show Ext _ _; repeat first | (with_reducible first | (refine xH ?_; assumption) | exact xR _ | refine xX ?_ _ | refine xA ?_ _) | refine xD ?_ | refine xN ?_ _ | exact xR _))
 have HB3 := hid (show Blk U w.heap.size (kdL T B sl rm (N : Int) pv K.ms.length K.ss.length K.os.length ma qa oa mc qc oc) by rw [← hU]; (show Blk _ _ _; repeat first | (with_reducible first | (refine xH ?_; assumption) | refine bD ?_ | refine bX ?_ _) | (with_reducible refine bN _ _ rfl ?_; first | with_reducible rfl | (simp; done)) | (with_reducible first | refine bA ?_ _ | assumption | apply bS) | (with_reducible refine bO ?_ ?_; first | omega | (simp; omega)) | (show List.set _ _ _ = _; exact rfl) | (show _ < List.length _; simp; done)))
 have HB4 := hid (show Blk U (w.heap.size + 1) (rsL s la sa lc sc) by rw [← hU]; (show Blk _ _ _; repeat first | (with_reducible first | (refine xH ?_; assumption) | refine bD ?_ | refine bX ?_ _) | (with_reducible refine bN _ _ rfl ?_; first | with_reducible rfl | (simp; done)) | (with_reducible first | refine bA ?_ _ | assumption | apply bS) | (with_reducible refine bO ?_ ?_; first | omega | (simp; omega)) | (show List.set _ _ _ = _; exact rfl) | (show _ < List.length _; simp; done)))
 have HB2 := hid (show Blk U (w.heap.size + 1 + 1) [.int .i64 x, .int .u32 y, .int .u32 z, .bool ok] by rw [← hU]; (show Blk _ _ _; repeat first | (with_reducible first | (refine xH ?_; assumption) | refine bD ?_ | refine bX ?_ _) | (with_reducible refine bN _ _ rfl ?_; first | with_reducible rfl | (simp; done)) | (with_reducible first | refine bA ?_ _ | assumption | apply bS) | (with_reducible refine bO ?_ ?_; first | omega | (simp; omega)) | (show List.set _ _ _ = _; exact rfl) | (show _ < List.length _; simp; done)))
 have HB5 := hid (show Blk U (w.heap.size + 1 + 1 + 1) [.int .i64 0, .int .i64 0, .int .i64 0, .int .i64 0, .int .u32 0, .int .u32 0, .slice none 0 0, .slice none 0 0] by rw [← hU]; (show Blk _ _ _; repeat first | (with_reducible first | (refine xH ?_; assumption) | refine bD ?_ | refine bX ?_ _) | (with_reducible refine bN _ _ rfl ?_; first | with_reducible rfl | (simp; done)) | (with_reducible first | refine bA ?_ _ | assumption | apply bS) | (with_reducible refine bO ?_ ?_; first | omega | (simp; omega)) | (show List.set _ _ _ = _; exact rfl) | (show _ < List.length _; simp; done)))
 have HB6 := hid (show Blk U (w.heap.size + 1 + 1 + 1 + 1) [.int .i64 0, .int .i64 0, .int .i64 0, .int .u32 0, .int .u32 0, .int .i64 0, .int .u32 0, .int .u32 0] by rw [← hU]; (show Blk _ _ _; repeat first | (with_reducible first | (refine xH ?_; assumption) | refine bD ?_ | refine bX ?_ _) | (with_reducible refine bN _ _ rfl ?_; first | with_reducible rfl | (simp; done)) | (with_reducible first | refine bA ?_ _ | assumption | apply bS) | (with_reducible refine bO ?_ ?_; first | omega | (simp; omega)) | (show List.set _ _ _ = _; exact rfl) | (show _ < List.length _; simp; done)))
 clear hU
 obtain ⟨g, hgg⟩ : ∃ g, g = w.heap.size := ⟨_, rfl⟩
 have HGw := hid (show w.heap.size = g from hgg.symm)
 rw [← hgg] at HB2 HB3 HB4 HB5 HB6
 simp only [← hgg]
 have hwg : w.heap.size ≤ g := by omega
 clear hgg
 have HSU := hid (show Rv U (.agg (rsL s la sa lc sc).toArray) s la sa lc sc from HS.out.of HEU.out)
 have k0 := HB4.out.2.2 0 _ rfl
 have k1 := HB4.out.2.2 1 _ rfl
 have k2 := HB4.out.2.2 2 _ rfl
 have k3 := HB4.out.2.2 3 _ rfl
 have k4 := HB4.out.2.2 4 _ rfl
 have k5 := HB4.out.2.2 5 _ rfl
 have k6 := HB4.out.2.2 6 _ rfl
 have k7 := HB4.out.2.2 7 _ rfl
 have kg := HB4.out.1
 have kf := HB4.out.2.1
 have d0 := HB3.out.2.2 0 _ rfl
 have d1 := HB3.out.2.2 1 _ rfl
 have d2 := HB3.out.2.2 2 _ rfl
 have d3 := HB3.out.2.2 3 _ rfl
 have d4 := HB3.out.2.2 4 _ rfl
 have d5 := HB3.out.2.2 5 _ rfl
 have d6 := HB3.out.2.2 6 _ rfl
 have d7 := HB3.out.2.2 7 _ rfl
 have d8 := HB3.out.2.2 8 _ rfl
 have d9 := HB3.out.2.2 9 _ rfl
 have d10 := HB3.out.2.2 10 _ rfl
 have dg := HB3.out.1
 obtain ⟨h0, h1, h2, h3⟩ := HB2.out.four
 have hgt := HB2.out.1
 rw [hph] at k0
 have HPh := hid hph
 clear hph
 go_upto_region 3 with fail
 obtain ⟨Z, hZ⟩ : ∃ Z, U = Z := ⟨_, rfl⟩
 rw [hZ]
 have HEZ := hid (show Ext w Z by rw [← hZ]; exact HEU.out)
 have HZ4 := hid (show Blk Z (g + 1) (rsL s la sa lc sc) by rw [← hZ]; exact HB4.out)
 have HZ3 := hid (show Blk Z g (kdL T B sl rm (N : Int) pv K.ms.length K.ss.length K.os.length ma qa oa mc qc oc) by rw [← hZ]; exact HB3.out)
 have HZ2 := hid (show Blk Z (g + 1 + 1) [.int .i64 x, .int .u32 y, .int .u32 z, .bool ok] by rw [← hZ]; exact HB2.out)
 have HZ5 := hid (show Blk Z (g + 1 + 1 + 1) [.int .i64 0, .int .i64 0, .int .i64 0, .int .i64 0, .int .u32 0, .int .u32 0, .slice none 0 0, .slice none 0 0] by rw [← hZ]; exact HB5.out)
 have HZ6 := hid (show Blk Z (g + 1 + 1 + 1 + 1) [.int .i64 0, .int .i64 0, .int .i64 0, .int .u32 0, .int .u32 0, .int .i64 0, .int .u32 0, .int .u32 0] by rw [← hZ]; exact HB6.out)
 clear hZ
 clear k0 k1 k2 k3 k4 k5 k6 k7 kg kf d0 d1 d2 d3 d4 d5 d6 d7 d8 d9 d10 dg h0 h1 h2 h3 hgt
 have k0 := HZ4.out.2.2 0 _ rfl
 have k1 := HZ4.out.2.2 1 _ rfl
 have k2 := HZ4.out.2.2 2 _ rfl
 have k3 := HZ4.out.2.2 3 _ rfl
 have k4 := HZ4.out.2.2 4 _ rfl
 have k5 := HZ4.out.2.2 5 _ rfl
 have k6 := HZ4.out.2.2 6 _ rfl
 have k7 := HZ4.out.2.2 7 _ rfl
 have kg := HZ4.out.1
 have kf := HZ4.out.2.1
 have d0 := HZ3.out.2.2 0 _ rfl
 have d1 := HZ3.out.2.2 1 _ rfl
 have d2 := HZ3.out.2.2 2 _ rfl
 have d3 := HZ3.out.2.2 3 _ rfl
 have d4 := HZ3.out.2.2 4 _ rfl
 have d5 := HZ3.out.2.2 5 _ rfl
 have d6 := HZ3.out.2.2 6 _ rfl
 have d7 := HZ3.out.2.2 7 _ rfl
 have d8 := HZ3.out.2.2 8 _ rfl
 have d9 := HZ3.out.2.2 9 _ rfl
 have d10 := HZ3.out.2.2 10 _ rfl
 have dg := HZ3.out.1
 obtain ⟨h0, h1, h2, h3⟩ := HZ2.out.four
 have hgt := HZ2.out.1
 have HSZ := hid (show Rv Z (.agg (rsL s la sa lc sc).toArray) s la sa lc sc from ⟨rfl, HS.out.ld.of wdE_len HEZ.out, HS.out.st.of locE_len HEZ.out, fun a ha => Nat.lt_of_lt_of_le (HS.out.lb a ha) HEZ.out.size, fun a ha => Nat.lt_of_lt_of_le (HS.out.sb a ha) HEZ.out.size⟩)
 have HNl := hid (show Nw w.heap.size la la from nw_refl)
 have HNs := hid (show Nw w.heap.size sa sa from nw_refl)
 have HOl := hid (show ∀ d : Addr, (la : Option Addr) = some d → d.block ≠ g + 1 + 1 + 1 ∧ d.block ≠ g + 1 + 1 + 1 + 1 from fun d hd => by have := HS.out.lb d hd; omega)
 have HOs := hid (show ∀ d : Addr, (sa : Option Addr) = some d → d.block ≠ g + 1 + 1 + 1 ∧ d.block ≠ g + 1 + 1 + 1 + 1 from fun d hd => by have := HS.out.sb d hd; omega)
 have HKZ := hid (HK.out.of HEZ.out)
 have HZs := hid HZ6.out.1
 obtain ⟨r, hr⟩ : ∃ r, r = rWord K s := ⟨_, rfl⟩
 have HC := hid (rword_any HKZ.out HSZ.out (by have := HI.out.i; first | (have := HQ.out; show _ ≤ _; dsimp only; omega) | omega | (show _ ≤ _; dsimp only; omega)) (by have := HI.out.st; first | omega | (show _ ≤ _; dsimp only; omega) | simp))
 rw [← hr] at HC
 have HRr := hid (show rNext K s (x, y, z) = r by rw [hr]; exact (by unfold rNext; simp [HPh.out]))
 clear hr
 obtain ⟨⟨ph2, i2, j2, ⟨m2, m3, m4⟩, ld2, st2⟩, op2, at2, a3, a4, a5⟩ := r
 go_wp2_with (go_call HC.out as e w' ⟨v, la2, sa2, lc2, sc2, rfl, hv, hn1, hn2, he2⟩; have hvv := hv.val; subst hvv; have HV := hid hv; have HN1 := hid hn1; have HN2 := hid hn2; clear hv hn1 hn2; have HEx := hid (HEZ.out.trans he2); have HBx5 := hid (HZ5.out.of he2); have HBx6 := hid (HZ6.out.of he2); clear he2; have y1 := HBx5.out.1; have y2' := HBx6.out.1; have y3 := HBx5.out.2.1; have y4 := HBx6.out.2.1; obtain ⟨x0, x1, x2, x3, x4, x5, x6, x7⟩ := HBx5.out.eight; obtain ⟨v0, v1, v2, v3, v4, v5, v6, v7⟩ := HBx6.out.eight; simp only [acE])
 obtain ⟨W, hW, hW5, hW6, hWE, W1, hG1, hG2⟩ := st16 HBx5.out HBx6.out (by omega) (.int .i64 ph2) (.int .i64 i2) (.int .i64 j2) (.int .i64 m2) (.int .u32 m3) (.int .u32 m4) (.slice la2 ld2.length lc2) (.slice sa2 st2.length sc2) (.int .i64 op2) (.int .i64 at2) (.int .i64 0) (.int .u32 0) (.int .u32 0) (.int .i64 a3) (.int .u32 a4) (.int .u32 a5)
 rw [hW]
 have HE := hid (hWE w HEx.out (by omega) (by omega))
 have HSz := hid (Nat.le_trans hG1.size hG2.size)
 have HWl := hid (HV.out.ld.two wdE_len hG1 hG2 (HN1.out.ne2 (fun d hd => (HOl.out d hd).1) (by have := HZs.out; omega)) (HN1.out.ne2 (fun d hd => (HOl.out d hd).2) (by have := HZs.out; omega)))
 have HWs := hid (HV.out.st.two locE_len hG1 hG2 (HN2.out.ne2 (fun d hd => (HOs.out d hd).1) (by have := HZs.out; omega)) (HN2.out.ne2 (fun d hd => (HOs.out d hd).2) (by have := HZs.out; omega)))
 obtain ⟨r0, r1, r2, r3, r4, r5, r6, r7⟩ := hW5.eight
 obtain ⟨q0, q1, q2, q3, q4, q5, q6, q7⟩ := hW6.eight
 have w5 := hW5.1
 have w6 := hW6.1
 exact bodyPost_ret (v := .tuple #[.agg (rsL ⟨ph2, i2, j2, (m2, m3, m4), ld2, st2⟩ la2 sa2 lc2 sc2).toArray, .agg (acE (op2, at2, (a3, a4, a5))).toArray]) (by simp [results, Tryd.results7, go_sem, r0, r1, r2, r3, r4, r5, r6, r7, q0, q1, q2, q3, q4, q5, q6, q7, w5, w6, acE, zW]) rfl (by rw [HRr.out]; exact ⟨_, la2, sa2, lc2, sc2, rfl, ⟨rfl, HWl.out, HWs.out, fun a ha => Nat.lt_of_lt_of_le (HV.out.lb a ha) HSz.out, fun a ha => Nat.lt_of_lt_of_le (HV.out.sb a ha) HSz.out⟩, HNl.out.trans (HN1.out.mono HEZ.out.size), HNs.out.trans (HN2.out.mono HEZ.out.size), HE.out⟩)
end Go.Proofs.YtdpbcfjfnclpiaaDoor
