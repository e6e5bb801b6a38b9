/- Walks of the reference's store and plain (simulcastref25). -/
import Derived.Test.YtdpbcfjfnclpiaaDoorPk27
import Derived.Test.YtdpbcfjfnclpiaaDoorPk28
import Derived.Test.YtdpbcfjfnclpiaaDoorPk29
namespace Go.Proofs.YtdpbcfjfnclpiaaDoor
set_option linter.unusedSimpArgs false
set_option linter.unusedVariables false
open Go.RowKit
theorem in_append {ops : Array Oper} {rest : List Oper} {o : Oper} {a : Act} {Q : Exit → Act → World → Prop} {w : World} {base : Nat} {v : Value} {l : List Nat} (hgd : o.guard = none)
 (s x : Operand) (ho : o.op = .call { callee := .builtin .append, args := #[s, x], argTypes := #[29, 29] })
 (W : World) (hW : Ext W w) (hWb : W.heap.size ≤ base) (hbw : base ≤ w.heap.size) (hs : a.eval s = v) (hown : Li w base v l)
 (ad : Addr) (m c : Nat) (hx : a.eval x = .slice (some ad) m c) (news : List Nat) (hm : news.length = m)
 (hnews : ∀ (j : Nat) (u : Value), (news.flatMap locE)[j]? = some u → w.cell? (ad.add j) = some u)
 (hlen : l.length + m ≤ 1000000)
 (h : ∀ v' r, Li (ext W r) base v' (l ++ news) → wpList Tryd.prog ops Q rest (a.put o.dst v') (ext W r)) : wpList Tryd.prog ops Q (o :: rest) a w := by
 obtain ⟨i0, hi, hz0, hz1, hz2⟩ := info_parts Tryd.infoIntK
 exact own_append Tryd.underlying29 hi hz0 hz1 hz2 rfl (by decide) locE_len locE_one hgd s x ho W hW hWb hbw hs hown ad m c hx news hm hnews (by unfold maxLen; omega) (by omega) h
theorem run_append_none (P : Program) (w : World) (base : Nat) (t ty e : TypeId) (i : TypeInfo) (size : Nat) (ht : P.underlying t = some (.slice e)) (hi : P.info? e = some i)
 (v : Value) (n : Nat) (xs : List Value) (c : Nat) (hown : w.ownsRow base e size v n xs) :
 (Builtin.append_ #[t, t] ty #[v, .slice none 0 c]).run P w = .ok v w := by
 rcases hown.2 with ⟨rfl, rfl⟩ | ⟨g, cap, cur, rfl, _, _, hnc, _⟩
 ·simp [Builtin.append_, run_underlying ht, sizeOf, typeInfo, hi, Builtin.lenOf, Builtin.firstCells]
 ·simp [Builtin.append_, run_underlying ht, sizeOf, typeInfo, hi, Builtin.lenOf, Builtin.firstCells, hnc, storeCells]
theorem in_append_sl {ops : Array Oper} {rest : List Oper} {o : Oper} {a : Act} {Q : Exit → Act → World → Prop} {w : World} {base : Nat} {v : Value} {l : List Nat} (hgd : o.guard = none)
 (s x : Operand) (ho : o.op = .call { callee := .builtin .append, args := #[s, x], argTypes := #[29, 29] })
 (W : World) (hW : Ext W w) (hWb : W.heap.size ≤ base) (hbw : base ≤ w.heap.size) (hs : a.eval s = v) (hown : Li w base v l)
 (xa : Option Addr) (m c : Nat) (hx : a.eval x = .slice xa m c) (news : List Nat) (hsl : Sl w 1 locE (.slice xa m c) news)
 (hlen : l.length + m ≤ 1000000)
 (h : ∀ v' r, Li (ext W r) base v' (l ++ news) → wpList Tryd.prog ops Q rest (a.put o.dst v') (ext W r)) : wpList Tryd.prog ops Q (o :: rest) a w := by
 have hm : news.length = m := (hsl.capT.1).symm
 cases xa with
 | some ad => exact in_append hgd s x ho W hW hWb hbw hs hown ad m c hx news hm (Sl.flat locE_len (by omega) hsl) hlen h
 | none =>
  have hnil : news = [] := by
   cases news with
   | nil => rfl
   | cons y r => obtain ⟨_, _, _, hab, _⟩ := Sl.at hsl (i := 0) (x := y) rfl; cases hab
  subst hnil
  obtain rfl : m = 0 := by simpa using hm.symm
  obtain ⟨i0, hi, _, _, _⟩ := info_parts Tryd.infoIntK
  have hr := run_append_none Tryd.prog w base 29 o.type 3 i0 1 Tryd.underlying29 hi v _ _ c hown
  obtain ⟨r, rfl⟩ := hW
  refine wpList_plain hgd fun K hK => ?_
  unfold Oper.wp execOp
  simp only [ho, resolve, invoke, builtin, Sem.run_bind, Sem.run_pure, Result.andThen_ok, List.map_toArray, List.map_cons, List.map_nil, hs, hx, hr]
  exact hK _ _ (h v r (by rw [List.append_nil]; exact hown))
theorem Own.blocks {α : Type} {enc : α → List Value} {base : Nat} {e : TypeId} {size : Nat} {l : List α} {w : World} {a : Option Addr} {n c : Nat} (h : Own w base e size enc (.slice a n c) l) : ∀ d, a = some d → base ≤ d.block ∧ d.block < w.heap.size := fun d hd => by
 subst hd; exact ⟨h.bases _ rfl, h.tops _ rfl⟩
set_option maxRecDepth 100000 in
set_option maxHeartbeats 2000000 in
theorem rstore_any {w : World} {sv : Value} {s : RS} {la sa : Option Addr} {lc sc : Nat} (hs : Rv w sv s la sa lc sc) (ph at_ : Nat) (x y z : Int) (hlen : s.st.length ≤ 100000) :
 Calls Tryd.prog 35 #[sv, .int .i64 ph, .int .i64 at_, .agg #[.int .i64 x, .int .u32 y, .int .u32 z]] w (RPost w la sa (rStore s ph at_ (x, y, z))) := by
 have HS := hid hs
 have HLn := hid hlen
 have hsv := hs.val
 clear hlen hs
 subst hsv
 go_enter Tryd.func35, Tryd.ntmps35
 go_upto_region 1 with fail
 generalize hU : World.alloc _ _ = U
 have HEU := hid (show Ext w U by rw [← hU]; (show Ext _ _; repeat first | (with_reducible first | (refine xH ?_; assumption) | exact xR _ | refine xX ?_ _ | refine xA ?_ _) | refine xD ?_ | refine xN ?_ _ | exact xR _))
 have HB4 := hid (show Blk U w.heap.size (rsL s la sa lc sc) by rw [← hU]; (show Blk _ _ _; repeat first | (with_reducible first | (refine xH ?_; assumption) | refine bD ?_ | refine bX ?_ _) | (with_reducible refine bN _ _ rfl ?_; first | with_reducible rfl | (simp; done)) | (with_reducible first | refine bA ?_ _ | assumption | apply bS) | (with_reducible refine bO ?_ ?_; first | omega | (simp; omega)) | (show List.set _ _ _ = _; exact rfl) | (show _ < List.length _; simp; done)))
 have HB7 := hid (show Blk U (w.heap.size + 1) [.int .i64 x, .int .u32 y, .int .u32 z] by rw [← hU]; (show Blk _ _ _; repeat first | (with_reducible first | (refine xH ?_; assumption) | refine bD ?_ | refine bX ?_ _) | (with_reducible refine bN _ _ rfl ?_; first | with_reducible rfl | (simp; done)) | (with_reducible first | refine bA ?_ _ | assumption | apply bS) | (with_reducible refine bO ?_ ?_; first | omega | (simp; omega)) | (show List.set _ _ _ = _; exact rfl) | (show _ < List.length _; simp; done)))
 have HB5 := hid (show Blk U (w.heap.size + 1 + 1) [.int .i64 0, .int .i64 0, .int .i64 0, .int .i64 0, .int .u32 0, .int .u32 0, .slice none 0 0, .slice none 0 0] by rw [← hU]; (show Blk _ _ _; repeat first | (with_reducible first | (refine xH ?_; assumption) | refine bD ?_ | refine bX ?_ _) | (with_reducible refine bN _ _ rfl ?_; first | with_reducible rfl | (simp; done)) | (with_reducible first | refine bA ?_ _ | assumption | apply bS) | (with_reducible refine bO ?_ ?_; first | omega | (simp; omega)) | (show List.set _ _ _ = _; exact rfl) | (show _ < List.length _; simp; done)))
 have HB6 := hid (show Blk U (w.heap.size + 1 + 1 + 1) [.int .i64 0, .int .i64 0, .int .i64 0, .int .u32 0, .int .u32 0, .int .i64 0, .int .u32 0, .int .u32 0] by rw [← hU]; (show Blk _ _ _; repeat first | (with_reducible first | (refine xH ?_; assumption) | refine bD ?_ | refine bX ?_ _) | (with_reducible refine bN _ _ rfl ?_; first | with_reducible rfl | (simp; done)) | (with_reducible first | refine bA ?_ _ | assumption | apply bS) | (with_reducible refine bO ?_ ?_; first | omega | (simp; omega)) | (show List.set _ _ _ = _; exact rfl) | (show _ < List.length _; simp; done)))
 clear hU
 obtain ⟨g, hg⟩ : ∃ g, g = w.heap.size := ⟨_, rfl⟩
 have HGw := hid (show w.heap.size = g from hg.symm)
 rw [← hg] at HB4 HB5 HB6 HB7
 simp only [← hg]
 have hwg : w.heap.size ≤ g := by omega
 clear hg
 have kg := HB4.out.1
 have kf := HB4.out.2.1
 have k0 := HB4.out.2.2 0 _ rfl
 go_upto_region 2 with fail
 generalize hZ : World.setCell _ _ _ = Z
 have HEZ := hid (show Ext w Z by rw [← hZ]; exact HEU.out.setCell (by show w.heap.size ≤ g; omega) _)
 have HZ4 := hid (show Blk Z g (rsL { s with ph := ph } la sa lc sc) by rw [← hZ]; exact HB4.out.set 0 (by simp) _)
 have HZ7 := hid (show Blk Z (g + 1) [.int .i64 x, .int .u32 y, .int .u32 z] by rw [← hZ]; exact HB7.out.other (by omega) _)
 have HZ5 := hid (show Blk Z (g + 1 + 1) [.int .i64 0, .int .i64 0, .int .i64 0, .int .i64 0, .int .u32 0, .int .u32 0, .slice none 0 0, .slice none 0 0] by rw [← hZ]; exact HB5.out.other (by omega) _)
 have HZ6 := hid (show Blk Z (g + 1 + 1 + 1) [.int .i64 0, .int .i64 0, .int .i64 0, .int .u32 0, .int .u32 0, .int .i64 0, .int .u32 0, .int .u32 0] by rw [← hZ]; exact HB6.out.other (by omega) _)
 clear hZ kg kf k0
 have k7 := HZ4.out.2.2 7 _ rfl
 have kg := HZ4.out.1
 have kf := HZ4.out.2.1
 obtain ⟨n, hn⟩ : ∃ n, n = s.st.length := ⟨_, rfl⟩
 have HSt := hid (show Sl Z 1 locE (.slice sa n sc) s.st by rw [hn]; exact HS.out.st.of locE_len HEZ.out)
 have HN := hid hn.symm
 rw [show ({ s with ph := ph } : RS).st.length = n from hn.symm] at k7
 have hlen := HLn.out
 rw [← hn] at hlen
 clear hn
 go_wp2_with (first
  | (at_builtin; refine in_append_sl rfl _ _ rfl Z (by (show Ext _ _; repeat first | (with_reducible first | (refine xH ?_; assumption) | exact xR _ | refine xX ?_ _ | refine xA ?_ _) | refine xD ?_ | refine xN ?_ _ | exact xR _)) (Nat.le_refl _) (by (first | exact Nat.le_refl _ | (simp; done) | (simp; omega))) rfl (Own.made #[] [] 0 rfl (Nat.le_refl _) (by unfold maxLen; omega) rfl rfl) sa n sc rfl s.st (HSt.out.of locE_len (by (show Ext _ _; repeat first | (with_reducible first | (refine xH ?_; assumption) | exact xR _ | refine xX ?_ _ | refine xA ?_ _) | refine xD ?_ | refine xN ?_ _ | exact xR _))) (by simp; omega) ?_; rintro v5 r5 hv5; rw [List.nil_append] at hv5; obtain ⟨a5, c5, hs5⟩ := Own.shape hv5; rw [HN.out] at hs5; subst hs5; have HV5 := hid hv5; clear hv5)
  | (at_builtin; refine in_append rfl _ _ rfl Z (by (show Ext _ _; repeat first | (with_reducible first | (refine xH ?_; assumption) | exact xR _ | refine xX ?_ _ | refine xA ?_ _) | refine xD ?_ | refine xN ?_ _ | exact xR _)) (Nat.le_refl _) (by (first | exact Nat.le_refl _ | (simp; done) | (simp; omega))) rfl (Own.alloc HV5.out _) _ 1 1 rfl [at_] rfl (blk_news (Blk.new _ _ rfl (by simp))) (by rw [HN.out]; omega) ?_; rintro v6 r6 hv6; obtain ⟨a6, c6, hs6⟩ := Own.shape hv6; rw [List.length_append, HN.out] at hs6; simp only [List.length_cons, List.length_nil, Nat.zero_add] at hs6; subst hs6; have HV6 := hid hv6; clear hv6))
 generalize hY : World.setCell _ _ _ = Y
 have hl6 : (s.st ++ [at_]).length = n + 1 := by rw [List.length_append, HN.out]; rfl
 have hgy : Grn g (ext Z r6) Y := by rw [← hY]; exact Grn.refl.setCell _ _
 have HEY := hid (show Ext w Y from (HEZ.out.ext r6).grn hgy hwg)
 have HY4 := hid (show Blk Y g (rsL { s with ph := ph, st := s.st ++ [at_] } la a6 lc c6) by
  rw [← hY]; show Blk _ g [_, _, _, _, _, _, _, .slice a6 (s.st ++ [at_]).length c6]; rw [hl6]; exact (HZ4.out.ext r6).set 7 (by simp) _)
 have HY7 := hid ((HZ7.out.ext r6).grn hgy (by omega))
 have HY5 := hid ((HZ5.out.ext r6).grn hgy (by omega))
 have HY6 := hid ((HZ6.out.ext r6).grn hgy (by omega))
 have HB6 := hid (Own.blocks HV6.out)
 have HZs := hid (show g + 3 < Z.heap.size from HZ6.out.1)
 have HSl := hid (show Sl Y 1 locE (.slice a6 (s.st ++ [at_]).length c6) (s.st ++ [at_]) by
  have h1 := Sl.of_own locE_len HV6.out
  rw [← hl6] at h1
  exact Sl.grnV locE_len h1 hgy (fun a m c he => by cases he; have h2 := (HB6.out a rfl).1; have h3 := HZs.out; omega))
 have HBy := hid (show ∀ d, a6 = some d → Z.heap.size ≤ d.block ∧ d.block < Y.heap.size from fun d hd => ⟨(HB6.out d hd).1, Nat.lt_of_lt_of_le (HB6.out d hd).2 hgy.size⟩)
 have HR := hid (show rStore s ph at_ (x, y, z) = ({ s with ph := ph, st := s.st ++ [at_] }, ((3 : Int), (at_ : Int), (x, y, z))) from rfl)
 clear hY hgy hl6 k7 kg kf hlen
 have z0 := HY4.out.2.2 0 _ rfl
 have z1 := HY4.out.2.2 1 _ rfl
 have z2 := HY4.out.2.2 2 _ rfl
 have z3 := HY4.out.2.2 3 _ rfl
 have z4 := HY4.out.2.2 4 _ rfl
 have z5 := HY4.out.2.2 5 _ rfl
 have z6 := HY4.out.2.2 6 _ rfl
 have z7 := HY4.out.2.2 7 _ rfl
 have zg := HY4.out.1
 obtain ⟨t0, t1, t2⟩ := HY7.out.three
 have tg := HY7.out.1
 have HL_ := hid (fun w' (h : Ext Y w') => (And.intro (Nat.lt_of_lt_of_le zg h.size) (And.intro (Nat.lt_of_lt_of_le tg h.size) (And.intro (h.cell z0) (And.intro (h.cell z1) (And.intro (h.cell z2) (And.intro (h.cell z3) (And.intro (h.cell z4) (And.intro (h.cell z5) (And.intro (h.cell z6) (And.intro (h.cell z7) (And.intro (h.cell t0) (And.intro (h.cell t1) (h.cell t2))))))))))))))
 refine wp_region_facts [20, 21, 22, 23] [0, 1, 2, 3] rfl (fun w' => Ext Y w') (fsAt [IsV ?_, IsV ?_, IsV ?_, IsV (.agg (acE ((3 : Int), (at_ : Int), (x, y, z))).toArray)]) (by kernel_rfl) (by kernel_rfl) ((Ext.refl _).drew) (fun w w' h he => h.trans he) (AllOn.cons (fun _ _ _ h _ => h) (AllOn.cons (fun _ _ _ h _ => h) (AllOn.cons (fun _ _ _ h _ => h) (AllOn.cons (fun _ _ _ h _ => h) (AllOn.nil))))) (AllOn.cons ?_ (AllOn.cons ?_ (AllOn.cons ?_ (AllOn.cons ?_ (AllOn.nil))))) ?_
 rotate_left 3
 ·intro A w cx hO hD
  have e4 := evO hO 4 rfl
  clear hD hO
  refine head_val (o := ⟨_, _, _, _, _, _⟩) rfl ?_ rfl rfl ?_ ?_
  rotate_left 1
  ·simp [go_sem, e4, cx, HL_.out w cx]
   try with_reducible rfl
  ·exact IsV.mk (w := w)
 ·intro A w cx hO hD
  have e2 := evO hO 2 rfl
  clear hD hO
  refine head_val (o := ⟨_, _, _, _, _, _⟩) rfl ?_ rfl rfl ?_ ?_
  rotate_left 1
  ·simp [go_sem, e2, cx, HL_.out w cx]
   try with_reducible rfl
  ·exact IsV.mk (w := w)
 ·intro A w cx hO hD
  have e7 := evO hO 7 rfl
  clear hD hO
  refine head_val (o := ⟨_, _, _, _, _, _⟩) rfl ?_ rfl rfl ?_ ?_
  rotate_left 1
  ·simp [go_sem, e7, cx, HL_.out w cx]
   try with_reducible rfl
  ·exact IsV.mk (w := w)
 ·intro A w cx hO hD
  have e21 := evD (hD 1 (by kernel_rfl) 21 rfl)
  have e22 := evD (hD 2 (by kernel_rfl) 22 rfl)
  clear hD hO
  refine head_wp (o := ⟨_, _, _, _, _, _⟩) rfl rfl ?_
  simp [go_sem, e21, e22]
  refine (ract_any _ _ _ _ _ _).mono ?_
  rintro e w' ⟨rfl, r', rfl⟩
  exact ⟨_, rfl, ⟨r', rfl⟩, rfl⟩
 intro u wx hC hF
 obtain ⟨f0, f1, f2, f3, _⟩ := hF
 have g0 : u 0 = _ := f0
 have g1 : u 1 = _ := f1
 have g2 : u 2 = _ := f2
 have g3 : u 3 = _ := f3
 simp only [fPut, Nat.zero_add, Nat.reduceAdd, g0, g1, g2, g3, Act.put, List.setIfInBounds_toArray, List.set_cons_zero, List.set_cons_succ, List.length_cons, List.length_nil, List.drop_succ_cons, List.drop_zero]
 clear g0 g1 g2 g3 f0 f1 f2 f3
 have HEx := hid (HEY.out.trans hC)
 have HYx := hid hC
 have HBx5 := hid (HY5.out.of hC)
 have HBx6 := hid (HY6.out.of hC)
 clear hC
 have y1 := HBx5.out.1
 have y2 := HBx6.out.1
 have y3 := HBx5.out.2.1
 have y4 := HBx6.out.2.1
 obtain ⟨x0, x1, x2, x3, x4, x5, x6, x7⟩ := HBx5.out.eight
 obtain ⟨v0, v1, v2, v3', v4, v5, v6, v7⟩ := HBx6.out.eight
 simp only [acE]
 (repeat (first | go_values | go_skip | go_guarded | go_step | go_upon | (simp only [Int.not_lt, Int.not_le] at *; go_simp) | (go_ite <;> go_prune <;> (try go_simp))))
 obtain ⟨W, hW, hW5, hW6, hWE, W1, hG1, hG2⟩ := st16 HBx5.out HBx6.out (by omega) (.int .i64 ph) (.int .i64 s.i) (.int .i64 s.j) (.int .i64 s.met.1) (.int .u32 s.met.2.1) (.int .u32 s.met.2.2) (.slice la s.ld.length lc) (.slice a6 (s.st.length + 1) c6) (.int .i64 3) (.int .i64 at_) (.int .i64 0) (.int .u32 0) (.int .u32 0) (.int .i64 x) (.int .u32 y) (.int .u32 z)
 rw [hW]
 have HE := hid (hWE w HEx.out (by omega) (by omega))
 have HSz := hid (Nat.le_trans hG1.size hG2.size)
 have HWs := hid ((HSl.out.of locE_len HYx.out).two locE_len hG1 hG2 (fun d hd => by have h1 := (HBy.out d hd).1; have h2 := HZs.out; omega) (fun d hd => by have h1 := (HBy.out d hd).1; have h2 := HZs.out; omega))
 obtain ⟨r0, r1, r2, r3, r4, r5, r6', r7⟩ := hW5.eight
 obtain ⟨q0, q1, q2, q3, q4, q5, q6, q7⟩ := hW6.eight
 have w5 := hW5.1
 have w6 := hW6.1
 exact bodyPost_ret (v := .tuple #[.agg (rsL { s with ph := ph, st := s.st ++ [at_] } la a6 lc c6).toArray, .agg (acE ((3 : Int), (at_ : Int), (x, y, z))).toArray]) (by simp [results, Tryd.results35, go_sem, r0, r1, r2, r3, r4, r5, r6', r7, q0, q1, q2, q3, q4, q5, q6, q7, w5, w6, acE]) rfl (by rw [HR.out]; exact ⟨_, la, a6, lc, c6, rfl, ⟨rfl, HS.out.ld.of wdE_len HE.out, HWs.out, fun a ha => Nat.lt_of_lt_of_le (HS.out.lb a ha) HE.out.size, fun a ha => Nat.lt_of_lt_of_le (Nat.lt_of_lt_of_le (HBy.out a ha).2 HYx.out.size) HSz.out⟩, .inl rfl, (by cases h6 : a6 with | none => exact .inr (.inl rfl) | some d => exact .inr (.inr ⟨d, rfl, by have h1 := (HBy.out d h6).1; have h2 := HEZ.out.size; omega⟩)), HE.out⟩)
end Go.Proofs.YtdpbcfjfnclpiaaDoor
