/- Walks of package redo: may, statuses, own. Walks of package model's New, At, Len, Words, and slices.Clone on words. -/
import Derived.Test.YtdpbcfjfnclpiaaDoorPk15
import Derived.Test.YtdpbcfjfnclpiaaDoorPk06
import Derived.Test.YtdpbcfjfnclpiaaDoorPk05
namespace Go.Proofs.YtdpbcfjfnclpiaaDoor
set_option linter.unusedSimpArgs false
set_option linter.unusedVariables false
open Go.RowKit
def locE (x : Nat) : List Value := [.int .i64 x]
theorem locE_len (x : Nat) : (locE x).length = 1 := rfl
theorem locE_one (x : Nat) : ∀ u ∈ locE x, u.oneCell' = true := by
 intro u hu
 simp only [locE, List.mem_cons, List.not_mem_nil, or_false] at hu
 subst hu; rfl
def Lo (w : World) (base : Nat) (v : Value) (l : List Nat) : Prop := Own w base 44 1 locE v l
theorem Tryd.infoLoc : (Tryd.prog.info? 44).map (fun i => (i.zero, i.size, i.bytes)) = some (some (.int .i64 0), 1, 8) := by kernel_rfl
theorem lo_append {ops : Array Oper} {rest : List Oper} {o : Oper} {a : Act} {Q : Exit → Act → World → Prop} {w : World} {base : Nat} {v : Value} {l : List Nat} (hgd : o.guard = none)
 (s x : Operand) (ho : o.op = .call { callee := .builtin .append, args := #[s, x], argTypes := #[76, 76] })
 (W : World) (hW : Ext W w) (hWb : W.heap.size ≤ base) (hbw : base ≤ w.heap.size) (hs : a.eval s = v) (hown : Lo w base v l)
 (ad : Addr) (m c : Nat) (hx : a.eval x = .slice (some ad) m c) (news : List Nat) (hm : news.length = m)
 (hnews : ∀ (j : Nat) (u : Value), (news.flatMap locE)[j]? = some u → w.cell? (ad.add j) = some u)
 (hlen : l.length + m ≤ 1000000)
 (h : ∀ v' r, Lo (ext W r) base v' (l ++ news) → wpList Tryd.prog ops Q rest (a.put o.dst v') (ext W r)) : wpList Tryd.prog ops Q (o :: rest) a w := by
 obtain ⟨i0, hi, hz0, hz1, hz2⟩ := info_parts Tryd.infoLoc
 exact own_append Tryd.underlying76 hi hz0 hz1 hz2 rfl (by decide) locE_len locE_one hgd s x ho W hW hWb hbw hs hown ad m c hx news hm hnews (by unfold maxLen; omega) (by omega) h
theorem lo_append_op {o : Oper} {a : Act} {K : Act → World → Prop} {Q : Exit → Act → World → Prop} {w : World} {base : Nat} {v : Value} {l : List Nat}
 (s x : Operand) (ho : o.op = .call { callee := .builtin .append, args := #[s, x], argTypes := #[76, 76] })
 (W : World) (hW : Ext W w) (hWb : W.heap.size ≤ base) (hbw : base ≤ w.heap.size) (hs : a.eval s = v) (hown : Lo w base v l)
 (ad : Addr) (m c : Nat) (hx : a.eval x = .slice (some ad) m c) (news : List Nat) (hm : news.length = m)
 (hnews : ∀ (j : Nat) (u : Value), (news.flatMap locE)[j]? = some u → w.cell? (ad.add j) = some u)
 (hlen : l.length + m ≤ 1000000)
 (h : ∀ v' r, Lo (ext W r) base v' (l ++ news) → K (a.put o.dst v') (ext W r)) : Oper.wp Tryd.prog o a w K Q := by
 obtain ⟨i0, hi, hz0, hz1, hz2⟩ := info_parts Tryd.infoLoc
 exact own_append_op Tryd.underlying76 hi hz0 hz1 hz2 rfl (by decide) locE_len locE_one s x ho W hW hWb hbw hs hown ad m c hx news hm hnews (by unfold maxLen; omega) (by omega) h
theorem maysTo_len (t c b : Int) (n : Nat) : (maysTo t c b n).length ≤ n := by
 unfold maysTo; have := List.length_filter_le (fun p : Nat => mayN t c b p) (List.range n); simpa using this
theorem size_le (t c b : Int) : 0 ≤ sizeN t c b ∧ sizeN t c b ≤ 4096 := by
 unfold sizeN
 split
 ·rename_i h
  have h7 := (from_le7 (right_lok h).1).2.2.2.2
  have := (right_lok h).2
  omega
 ·omega
set_option maxHeartbeats 2000000 in
theorem may25_any (t c b : Int) (w : World) (hs : Szs w) :
 Calls Tryd.prog 26 #[.agg #[.int .i64 t, .int .i64 c, .int .i64 b]] w fun y w' => ∃ v, y = .returned v ∧ (∃ r, w' = ext w r) ∧ Lo w' w.heap.size v (maysL t c b) := by
 have HS := hid hs
 have hz := size_le t c b
 obtain ⟨n, hn⟩ := Int.eq_ofNat_of_zero_le hz.1
 have HN := hid hn
 have HM := hid (show maysL t c b = maysTo t c b n by unfold maysL; rw [hn, Int.toNat_natCast])
 have hn4 : n ≤ 4096 := by omega
 clear hs hz hn
 go_enter Tryd.func26, Tryd.ntmps26
 go_wp2_with fail
 refine (size_any t c b _ (HS.out.of (by (show Ext _ _; repeat first | (with_reducible first | (refine xH ?_; assumption) | exact xR _ | refine xX ?_ _ | refine xA ?_ _) | refine xD ?_ | refine xN ?_ _ | exact xR _)))).mono ?_
 rintro e w' ⟨rfl, r1, rfl⟩
 rw [HN.out]
 go_wp2_with fail
 generalize hU : ext _ r1 = U
 have HEU := hid (show Ext w U by rw [← hU]; (show Ext _ _; repeat first | (with_reducible first | (refine xH ?_; assumption) | exact xR _ | refine xX ?_ _ | refine xA ?_ _) | refine xD ?_ | refine xN ?_ _ | exact xR _))
 have HBl := hid (show Blk U w.heap.size [.int .i64 t, .int .i64 c, .int .i64 b] by rw [← hU]; (show Blk _ _ _; repeat first | (with_reducible first | (refine xH ?_; assumption) | refine bD ?_ | refine bX ?_ _) | (with_reducible refine bN _ _ rfl ?_; first | with_reducible rfl | (simp; done)) | (with_reducible first | refine bA ?_ _ | assumption | apply bS) | (with_reducible refine bO ?_ ?_; first | omega | (simp; omega)) | (show List.set _ _ _ = _; exact rfl) | (show _ < List.length _; simp; done)))
 clear hU
 go_loopw [3, 7] (fun o i wr => ∃ j : Nat, j ≤ n ∧ i = .int .i64 j ∧ Hid (Lo wr U.heap.size o (maysTo t c b j)) ∧ Hid (Ext U wr)) (fun _ i _ => n - (intOf i).toNat)
 case atStart => exact ⟨0, by omega, rfl, hid Own.nil, hid (Ext.refl _)⟩
 case round =>
 obtain ⟨j, hj, rfl, HO, HX⟩ := hrel
 have HXw := hid (HEU.out.trans HX.out)
 obtain ⟨l0, l1, l2⟩ := (HBl.out.of HX.out).three
 have l4 := (HBl.out.of HX.out).1
 by_cases hjn : j < n
 rotate_left
 ·have hd : decide (j < n) = false := decide_eq_false hjn
  obtain rfl : j = n := by omega
  go_wp2_with fail
  go_ret
  exact ⟨_, rfl, HXw.out, by rw [HM.out]; exact Own.mono HO.out HEU.out.size⟩
 have hd : decide (j < n) = true := decide_eq_true hjn
 have hln := maysTo_len t c b j
 have HLn := hid hln
 cases hm : mayN t c b j
 ·have HMj := hid hm
  have HMt := hid (maysTo_no hm)
  clear hm hln
  go_wp2_with fail
  refine (may_any t c b j (by omega) (by omega) _ (HS.out.of (HXw.out.trans (by (show Ext _ _; repeat first | (with_reducible first | (refine xH ?_; assumption) | exact xR _ | refine xX ?_ _ | refine xA ?_ _) | refine xD ?_ | refine xN ?_ _ | exact xR _))))).mono ?_
  rintro e w' ⟨rfl, r2, rfl⟩
  rw [HMj.out]
  go_wp2_with fail
  go_roundw
  case rel => exact ⟨j + 1, by omega, by go_num, hid (by rw [HMt.out]; exact HO.out.of_ext (by (show Ext _ _; repeat first | (with_reducible first | (refine xH ?_; assumption) | exact xR _ | refine xX ?_ _ | refine xA ?_ _) | refine xD ?_ | refine xN ?_ _ | exact xR _))), hid (by (show Ext _ _; repeat first | (with_reducible first | (refine xH ?_; assumption) | exact xR _ | refine xX ?_ _ | refine xA ?_ _) | refine xD ?_ | refine xN ?_ _ | exact xR _))⟩
  case measure => simp [intOf]; omega
 ·have HMj := hid hm
  have HMt := hid (maysTo_yes hm)
  have hus := HX.out.size
  clear hm hln
  go_wp2_with fail
  refine (may_any t c b j (by omega) (by omega) _ (HS.out.of (HXw.out.trans (by (show Ext _ _; repeat first | (with_reducible first | (refine xH ?_; assumption) | exact xR _ | refine xX ?_ _ | refine xA ?_ _) | refine xD ?_ | refine xN ?_ _ | exact xR _))))).mono ?_
  rintro e w' ⟨rfl, r2, rfl⟩
  rw [HMj.out]
  go_wp2_with (at_builtin; refine lo_append rfl _ _ rfl U (HX.out.trans (by (show Ext _ _; repeat first | (with_reducible first | (refine xH ?_; assumption) | exact xR _ | refine xX ?_ _ | refine xA ?_ _) | refine xD ?_ | refine xN ?_ _ | exact xR _))) (Nat.le_refl _) (by (first | exact Nat.le_refl _ | (simp; done) | (simp; omega))) rfl (Own.alloc (HO.out.of_ext (by (show Ext _ _; repeat first | (with_reducible first | (refine xH ?_; assumption) | exact xR _ | refine xX ?_ _ | refine xA ?_ _) | refine xD ?_ | refine xN ?_ _ | exact xR _))) _) _ 1 1 rfl [j] rfl (news_new rfl _ (by (first | rfl | (simp; done)))) (by have := HLn.out; omega) ?_; rintro v9 r9 hv9; have HV9 := hid hv9; clear hv9)
  go_roundw
  case rel => exact ⟨j + 1, by omega, by go_num, hid (by rw [HMt.out]; exact HV9.out), hid (by (show Ext _ _; repeat first | (with_reducible first | (refine xH ?_; assumption) | exact xR _ | refine xX ?_ _ | refine xA ?_ _) | refine xD ?_ | refine xN ?_ _ | exact xR _))⟩
  case measure => simp [intOf]; omega
theorem slot_pos {t c b : Int} (hr : rightN t c b = true) {k : Nat} (hk : (k : Int) < t) : atN t c b 4 (wrap64 ((k : Int) + 1 - 1)) 0 = (((atN t c b 4 k 0).toNat : Nat) : Int) := by
 have ht := (right_lok hr).1.2.1
 have h := (atN_lt (p := 4) (i := (k : Int)) (more := 0) hr (by omega) ⟨by omega, by simp only [manyN]; omega⟩ (by simp) (by omega)).1
 rw [show wrap64 ((k : Int) + 1 - 1) = k by rw [show (k : Int) + 1 - 1 = k by omega]; exact IntWalk.wrap64_in _ ⟨by omega, by omega⟩]
 omega
theorem block_pos {t c b : Int} (hr : rightN t c b = true) {k : Nat} (hk : (k : Int) < b) : atN t c b 6 k 0 = (((atN t c b 6 k 0).toNat : Nat) : Int) := by
 have h := (atN_lt (p := 6) (i := (k : Int)) (more := 0) hr (by omega) ⟨by omega, by simp only [manyN]; omega⟩ (by simp) (by omega)).1
 omega
theorem own_pos {t c b : Int} (hr : rightN t c b = true) {k : Nat} (hk : (k : Int) < t) (m : Int) (hm : 0 ≤ m ∧ m ≤ 1) : atN t c b 1 (wrap64 ((k : Int) + 1 - 1)) m = (((atN t c b 1 k m).toNat : Nat) : Int) := by
 have ht := (right_lok hr).1.2.1
 have h := (atN_lt (p := 1) (i := (k : Int)) (more := m) hr (by omega) ⟨by omega, by simp only [manyN]; omega⟩ (by simp; omega) (by omega)).1
 rw [show wrap64 ((k : Int) + 1 - 1) = k by rw [show (k : Int) + 1 - 1 = k by omega]; exact IntWalk.wrap64_in _ ⟨by omega, by omega⟩]
 omega
theorem slotTo_len (t c b : Int) (n : Nat) : (slotTo t c b n).length = n := by simp [slotTo]
theorem blockTo_len (t c b : Int) (n : Nat) : (blockTo t c b n).length = n := by simp [blockTo]
theorem ownTo_len (t c b : Int) (n : Nat) : (ownTo t c b n).length = 2 * n := by
 unfold ownTo
 induction n with
 | zero => rfl
 | succ n ih => rw [List.range_succ, List.flatMap_append, List.length_append, ih]; simp; omega
set_option maxHeartbeats 2000000 in
theorem stats25_any (t c b : Int) (hr : rightN t c b = true) (w : World) (hs : Szs w) :
 Calls Tryd.prog 27 #[.agg #[.int .i64 t, .int .i64 c, .int .i64 b]] w fun y w' => ∃ v, y = .returned v ∧ (∃ r, w' = ext w r) ∧ Lo w' w.heap.size v (statsL t c b) := by
 have HS := hid hs
 have hk := (right_lok hr).1
 obtain ⟨T, hT⟩ := Int.eq_ofNat_of_zero_le (show 0 ≤ t by have := hk.1; omega)
 obtain ⟨B, hB⟩ := Int.eq_ofNat_of_zero_le (show 0 ≤ b by have := hk.2.2.2.2.1; omega)
 subst hT hB
 have hT8 : T ≤ 8 := by have := hk.2.1; omega
 have hB64 : B ≤ 64 := by have := hk.2.2.2.2.2; omega
 have HSl := hid (fun (k : Nat) (h : (k : Int) < (T : Int)) => slot_pos hr h)
 have HBl := hid (fun (k : Nat) (h : (k : Int) < (B : Int)) => block_pos hr h)
 have HM := hid (show statsL T c B = slotTo T c B T ++ blockTo T c B B by unfold statsL; rw [Int.toNat_natCast, Int.toNat_natCast])
 clear hs hk hr
 go_enter Tryd.func27, Tryd.ntmps27
 go_wp2_with fail
 generalize hU : World.alloc _ _ = U
 have HEU := hid (show Ext w U by rw [← hU]; (show Ext _ _; repeat first | (with_reducible first | (refine xH ?_; assumption) | exact xR _ | refine xX ?_ _ | refine xA ?_ _) | refine xD ?_ | refine xN ?_ _ | exact xR _))
 have HBk := hid (show Blk U w.heap.size [.int .i64 T, .int .i64 c, .int .i64 B] by rw [← hU]; (show Blk _ _ _; repeat first | (with_reducible first | (refine xH ?_; assumption) | refine bD ?_ | refine bX ?_ _) | (with_reducible refine bN _ _ rfl ?_; first | with_reducible rfl | (simp; done)) | (with_reducible first | refine bA ?_ _ | assumption | apply bS) | (with_reducible refine bO ?_ ?_; first | omega | (simp; omega)) | (show List.set _ _ _ = _; exact rfl) | (show _ < List.length _; simp; done)))
 clear hU
 go_loopw [3, 4] (fun o i wr => ∃ j : Nat, j ≤ T ∧ i = .int .i64 (j + 1 : Nat) ∧ Hid (Lo wr U.heap.size o (slotTo T c B j)) ∧ Hid (Ext U wr)) (fun _ i _ => T + 1 - (intOf i).toNat)
 case atStart => exact ⟨0, by omega, rfl, hid Own.nil, hid (Ext.refl _)⟩
 case round =>
 obtain ⟨j, hj, rfl, HO, HX⟩ := hrel
 have HXw := hid (HEU.out.trans HX.out)
 obtain ⟨l0, l1, l2⟩ := (HBk.out.of HX.out).three
 have l4 := (HBk.out.of HX.out).1
 by_cases hjn : j < T
 ·have hjj : ((j + 1 : Nat) : Int) ≤ (T : Int) := by omega
  have HAt := hid (HSl.out j (by omega))
  have HLn := hid (slotTo_len T c B j)
  have HSc := hid (slotTo_succ T c B j)
  have hus := HX.out.size
  obtain ⟨p, hp⟩ : ∃ p, p = (atN T c B 4 j 0).toNat := ⟨_, rfl⟩
  rw [← hp] at HAt HSc
  clear hp
  go_wp2_with fail
  refine (slot_any T c B ((j : Int) + 1) _ (HS.out.of (HXw.out.trans (by (show Ext _ _; repeat first | (with_reducible first | (refine xH ?_; assumption) | exact xR _ | refine xX ?_ _ | refine xA ?_ _) | refine xD ?_ | refine xN ?_ _ | exact xR _))))).mono ?_
  rintro e w' ⟨rfl, r2, rfl⟩
  rw [HAt.out]
  go_wp2_with (at_builtin; refine lo_append rfl _ _ rfl U (HX.out.trans (by (show Ext _ _; repeat first | (with_reducible first | (refine xH ?_; assumption) | exact xR _ | refine xX ?_ _ | refine xA ?_ _) | refine xD ?_ | refine xN ?_ _ | exact xR _))) (Nat.le_refl _) (by (first | exact Nat.le_refl _ | (simp; done) | (simp; omega))) rfl (Own.alloc (HO.out.of_ext (by (show Ext _ _; repeat first | (with_reducible first | (refine xH ?_; assumption) | exact xR _ | refine xX ?_ _ | refine xA ?_ _) | refine xD ?_ | refine xN ?_ _ | exact xR _))) _) _ 1 1 rfl [p] rfl (news_new rfl _ (by (first | rfl | (simp; done)))) (by have := HLn.out; omega) ?_; rintro v9 r9 hv9; have HV9 := hid hv9; clear hv9)
  go_roundw
  case rel => exact ⟨j + 1, by omega, by go_num, hid (by rw [HSc.out]; exact HV9.out), hid (by (show Ext _ _; repeat first | (with_reducible first | (refine xH ?_; assumption) | exact xR _ | refine xX ?_ _ | refine xA ?_ _) | refine xD ?_ | refine xN ?_ _ | exact xR _))⟩
  case measure => simp [intOf]; omega
 have hjj : ¬ ((j + 1 : Nat) : Int) ≤ (T : Int) := by omega
 obtain rfl : j = T := by omega
 have HO1 := hid HO.out
 go_wp2_with fail
 go_loopw [3, 20] (fun o i wk => ∃ k : Nat, k ≤ B ∧ i = .int .i64 k ∧ Hid (Lo wk U.heap.size o (slotTo j c B j ++ blockTo j c B k)) ∧ Hid (Ext U wk)) (fun _ i _ => B - (intOf i).toNat)
 case atStart => exact ⟨0, by omega, rfl, hid (by simpa [blockTo] using HO1.out), HX⟩
 case round =>
 clear HO1 HO HX HXw l0 l1 l2 l4
 obtain ⟨k, hk, rfl, HO, HX⟩ := hrel
 have HXw := hid (HEU.out.trans HX.out)
 obtain ⟨l0, l1, l2⟩ := (HBk.out.of HX.out).three
 have l4 := (HBk.out.of HX.out).1
 by_cases hkn : k < B
 ·have hkk : decide (k < B) = true := decide_eq_true hkn
  have HAt := hid (HBl.out k (by omega))
  have HLn := hid (blockTo_len j c B k)
  have HLs := hid (slotTo_len j c B j)
  have HSc := hid (blockTo_succ j c B k)
  have hus := HX.out.size
  obtain ⟨p, hp⟩ : ∃ p, p = (atN j c B 6 k 0).toNat := ⟨_, rfl⟩
  rw [← hp] at HAt HSc
  clear hp
  go_wp2_with fail
  refine (block_any j c B k _ (HS.out.of (HXw.out.trans (by (show Ext _ _; repeat first | (with_reducible first | (refine xH ?_; assumption) | exact xR _ | refine xX ?_ _ | refine xA ?_ _) | refine xD ?_ | refine xN ?_ _ | exact xR _))))).mono ?_
  rintro e w' ⟨rfl, r2, rfl⟩
  rw [HAt.out]
  go_wp2_with (at_builtin; refine lo_append rfl _ _ rfl U (HX.out.trans (by (show Ext _ _; repeat first | (with_reducible first | (refine xH ?_; assumption) | exact xR _ | refine xX ?_ _ | refine xA ?_ _) | refine xD ?_ | refine xN ?_ _ | exact xR _))) (Nat.le_refl _) (by (first | exact Nat.le_refl _ | (simp; done) | (simp; omega))) rfl (Own.alloc (HO.out.of_ext (by (show Ext _ _; repeat first | (with_reducible first | (refine xH ?_; assumption) | exact xR _ | refine xX ?_ _ | refine xA ?_ _) | refine xD ?_ | refine xN ?_ _ | exact xR _))) _) _ 1 1 rfl [p] rfl (news_new rfl _ (by (first | rfl | (simp; done)))) (by rw [List.length_append, HLn.out, HLs.out]; omega) ?_; rintro v9 r9 hv9; have HV9 := hid hv9; clear hv9)
  go_roundw
  case rel => exact ⟨k + 1, by omega, by go_num, hid (by rw [HSc.out, ← List.append_assoc]; exact HV9.out), hid (by (show Ext _ _; repeat first | (with_reducible first | (refine xH ?_; assumption) | exact xR _ | refine xX ?_ _ | refine xA ?_ _) | refine xD ?_ | refine xN ?_ _ | exact xR _))⟩
  case measure => simp [intOf]; omega
 have hkk : decide (k < B) = false := decide_eq_false hkn
 obtain rfl : k = B := by omega
 go_wp2_with fail
 go_ret
 exact ⟨_, rfl, HXw.out, by rw [HM.out]; exact Own.mono HO.out HEU.out.size⟩
set_option maxHeartbeats 2000000 in
theorem owns25_any (t c b : Int) (hr : rightN t c b = true) (w : World) (hs : Szs w) :
 Calls Tryd.prog 28 #[.agg #[.int .i64 t, .int .i64 c, .int .i64 b]] w fun y w' => ∃ v, y = .returned v ∧ (∃ r, w' = ext w r) ∧ Lo w' w.heap.size v (ownsL t c b) := by
 have HS := hid hs
 have hk := (right_lok hr).1
 obtain ⟨T, hT⟩ := Int.eq_ofNat_of_zero_le (show 0 ≤ t by have := hk.1; omega)
 subst hT
 have hT8 : T ≤ 8 := by have := hk.2.1; omega
 have HSl := hid (fun (k : Nat) (h : (k : Int) < (T : Int)) => And.intro (own_pos hr h 0 (by omega)) (own_pos hr h 1 (by omega)))
 have HM := hid (show ownsL T c b = ownTo T c b T by unfold ownsL; rw [Int.toNat_natCast])
 clear hs hk hr
 go_enter Tryd.func28, Tryd.ntmps28
 go_wp2_with fail
 generalize hU : World.alloc _ _ = U
 have HEU := hid (show Ext w U by rw [← hU]; (show Ext _ _; repeat first | (with_reducible first | (refine xH ?_; assumption) | exact xR _ | refine xX ?_ _ | refine xA ?_ _) | refine xD ?_ | refine xN ?_ _ | exact xR _))
 have HBk := hid (show Blk U w.heap.size [.int .i64 T, .int .i64 c, .int .i64 b] by rw [← hU]; (show Blk _ _ _; repeat first | (with_reducible first | (refine xH ?_; assumption) | refine bD ?_ | refine bX ?_ _) | (with_reducible refine bN _ _ rfl ?_; first | with_reducible rfl | (simp; done)) | (with_reducible first | refine bA ?_ _ | assumption | apply bS) | (with_reducible refine bO ?_ ?_; first | omega | (simp; omega)) | (show List.set _ _ _ = _; exact rfl) | (show _ < List.length _; simp; done)))
 clear hU
 go_loopw [3, 4] (fun o i wr => ∃ j : Nat, j ≤ T ∧ i = .int .i64 (j + 1 : Nat) ∧ Hid (Lo wr U.heap.size o (ownTo T c b j)) ∧ Hid (Ext U wr)) (fun _ i _ => T + 1 - (intOf i).toNat)
 case atStart => exact ⟨0, by omega, rfl, hid Own.nil, hid (Ext.refl _)⟩
 case round =>
 obtain ⟨j, hj, rfl, HO, HX⟩ := hrel
 have HXw := hid (HEU.out.trans HX.out)
 obtain ⟨l0, l1, l2⟩ := (HBk.out.of HX.out).three
 have l4 := (HBk.out.of HX.out).1
 by_cases hjn : j < T
 ·have hjj : ((j + 1 : Nat) : Int) ≤ (T : Int) := by omega
  have HAt := hid (HSl.out j (by omega))
  have HLn := hid (ownTo_len T c b j)
  have HSc := hid (ownTo_succ T c b j)
  have hus := HX.out.size
  obtain ⟨p, hp⟩ : ∃ p, p = (atN T c b 1 j 0).toNat := ⟨_, rfl⟩
  obtain ⟨p2, hp2⟩ : ∃ p, p = (atN T c b 1 j 1).toNat := ⟨_, rfl⟩
  rw [← hp, ← hp2] at HAt HSc
  have HA0 := hid HAt.out.1
  have HA1 := hid HAt.out.2
  clear hp hp2 HAt
  go_upto_region 5 with fail
  refine wp_region_held_drew (S := fun w' => w'.cell? ⟨w.heap.size, 0, none⟩ = some (.int .i64 T) ∧ w'.cell? ⟨w.heap.size, 1, none⟩ = some (.int .i64 c) ∧ w'.cell? ⟨w.heap.size, 2, none⟩ = some (.int .i64 b)) (by kernel_rfl) (by exact (HBk.out.of (show Ext U _ by (show Ext _ _; repeat with_reducible first | (refine xH ?_; assumption) | exact xR _ | refine xX ?_ _ | refine xA ?_ _ | refine xD ?_ | refine xS ?_ (by (try dsimp only); first | omega | (simp; done) | (simp; omega)) _))).three) (fun hHeld => ?_)
  refine take_met 0 (oi := ⟨_, _, _, _, _, _⟩) (v := ?_) (by kernel_rfl) rfl (by rfl) (fun _ _ _ h => h) (by assumption) ?_ ?_
  rotate_left 1
  ·intro w hSw
   try dsimp only at hSw
   go_simp
   try with_reducible rfl
  (try simp only [Act.put, pA, pB, pC])
  refine take_met 1 (oi := ⟨_, _, _, _, _, _⟩) (v := ?_) (by kernel_rfl) rfl (by rfl) (fun _ _ _ h => h) (by assumption) ?_ ?_
  rotate_left 1
  ·intro w hSw
   try dsimp only at hSw
   go_simp
   try with_reducible rfl
  (try simp only [Act.put, pA, pB, pC])
  refine take_met 2 (oi := ⟨_, _, _, _, _, _⟩) (v := ?_) (by kernel_rfl) rfl (by rfl) (fun _ _ _ h => h) (by assumption) ?_ ?_
  rotate_left 1
  ·intro w hSw
   try dsimp only at hSw
   go_simp
   try with_reducible rfl
  (try simp only [Act.put, pA, pB, pC])
  refine take_met 4 (oi := ⟨_, _, _, _, _, _⟩) (v := ?_) (by kernel_rfl) rfl (by rfl) (fun _ _ _ h => h) (by assumption) ?_ ?_
  rotate_left 1
  ·intro w hSw
   try dsimp only at hSw
   go_simp
   try with_reducible rfl
  (try simp only [Act.put, pA, pB, pC])
  refine take_met 5 (oi := ⟨_, _, _, _, _, _⟩) (v := ?_) (by kernel_rfl) rfl (by rfl) (fun _ _ _ h => h) (by assumption) ?_ ?_
  rotate_left 1
  ·intro w hSw
   try dsimp only at hSw
   go_simp
   try with_reducible rfl
  (try simp only [Act.put, pA, pB, pC])
  refine take_only 3 (oi := ⟨_, _, _, _, _, _⟩) (by kernel_rfl) rfl (fun K hK => ?_)
  go_simp
  first
   | (go_at_call 23; refine (announce_any T c b ((j : Int) + 1) _ (HS.out.of (HXw.out.trans (by (show Ext _ _; repeat first | (with_reducible first | (refine xH ?_; assumption) | exact xR _ | refine xX ?_ _ | refine xA ?_ _) | refine xD ?_ | refine xN ?_ _ | exact xR _))))).mono ?_; rintro e w' ⟨rfl, r2, rfl⟩; rw [HA0.out])
  have hOld := hHeld
  clear hHeld
  refine hK.out _ _ (by exact (HBk.out.of (show Ext U _ by (show Ext _ _; repeat with_reducible first | (refine xH ?_; assumption) | exact xR _ | refine xX ?_ _ | refine xA ?_ _ | refine xD ?_ | refine xS ?_ (by (try dsimp only); first | omega | (simp; done) | (simp; omega)) _))).three) (fun hHeld => ?_)
  clear hOld hK K
  (try simp only [Act.put, pA, pB, pC])
  refine take_only 6 (oi := ⟨_, _, _, _, _, _⟩) (by kernel_rfl) rfl (fun K hK => ?_)
  go_simp
  first
   | (go_at_call 24; refine (hazard_any T c b ((j : Int) + 1) _ (HS.out.of (HXw.out.trans (by (show Ext _ _; repeat first | (with_reducible first | (refine xH ?_; assumption) | exact xR _ | refine xX ?_ _ | refine xA ?_ _) | refine xD ?_ | refine xN ?_ _ | exact xR _))))).mono ?_; rintro e w' ⟨rfl, r3, rfl⟩; rw [HA1.out])
  have hOld := hHeld
  clear hHeld
  refine hK.out _ _ (by exact (HBk.out.of (show Ext U _ by (show Ext _ _; repeat with_reducible first | (refine xH ?_; assumption) | exact xR _ | refine xX ?_ _ | refine xA ?_ _ | refine xD ?_ | refine xS ?_ (by (try dsimp only); first | omega | (simp; done) | (simp; omega)) _))).three) (fun hHeld => ?_)
  clear hOld hK K
  (try simp only [Act.put, pA, pB, pC])
  refine take_only 7 (oi := ⟨_, _, _, _, _, _⟩) (by kernel_rfl) rfl (fun K hK => ?_)
  go_simp
  have hOld := hHeld
  clear hHeld
  refine hK.out _ _ (by exact (HBk.out.of (show Ext U _ by (show Ext _ _; repeat with_reducible first | (refine xH ?_; assumption) | exact xR _ | refine xX ?_ _ | refine xA ?_ _ | refine xD ?_ | refine xS ?_ (by (try dsimp only); first | omega | (simp; done) | (simp; omega)) _))).three) (fun hHeld => ?_)
  clear hOld hK K
  (try simp only [Act.put, pA, pB, pC])
  refine take_only 8 (oi := ⟨_, _, _, _, _, _⟩) (by kernel_rfl) rfl (fun K hK => ?_)
  rw [if_pos (by rfl)]
  first
   | (refine lo_append_op _ _ rfl U (HX.out.trans (by (show Ext _ _; repeat with_reducible first | (refine xH ?_; assumption) | exact xR _ | refine xX ?_ _ | refine xA ?_ _ | refine xD ?_ | refine xS ?_ (by (try dsimp only); first | omega | (simp; done) | (simp; omega)) _))) (Nat.le_refl _) (by (first | exact Nat.le_refl _ | (simp; done) | (simp; omega))) rfl (Own.alloc (HO.out.of_ext (by (show Ext _ _; repeat with_reducible first | (refine xH ?_; assumption) | exact xR _ | refine xX ?_ _ | refine xA ?_ _ | refine xD ?_ | refine xS ?_ (by (try dsimp only); first | omega | (simp; done) | (simp; omega)) _))) _) _ 2 2 rfl [p, p2] rfl (news_new rfl _ (by (first | rfl | (simp; done)))) (by have := HLn.out; omega) ?_; rintro v9 r9 hv9; have HV9 := hid hv9; clear hv9)
  have hOld := hHeld
  clear hHeld
  refine hK.out _ _ (by exact (HBk.out.of (show Ext U _ by (show Ext _ _; repeat with_reducible first | (refine xH ?_; assumption) | exact xR _ | refine xX ?_ _ | refine xA ?_ _ | refine xD ?_ | refine xS ?_ (by (try dsimp only); first | omega | (simp; done) | (simp; omega)) _))).three) (fun hHeld => ?_)
  clear hOld hK K
  (try simp only [Act.put, pA, pB, pC])
  refine take_met 9 (oi := ⟨_, _, _, _, _, _⟩) (v := ?_) (by kernel_rfl) rfl (by rfl) (fun _ _ _ h => h) (by assumption) ?_ ?_
  rotate_left 1
  ·intro w hSw
   try dsimp only at hSw
   go_simp
   try with_reducible rfl
  (try simp only [Act.put, pA, pB, pC])
  refine wpAnyH_done (by kernel_rfl) ?_ _
  go_wp2_with fail
  go_roundw
  case rel => exact ⟨j + 1, by omega, by go_num, hid (by rw [HSc.out]; exact HV9.out), hid (by (show Ext _ _; repeat first | (with_reducible first | (refine xH ?_; assumption) | exact xR _ | refine xX ?_ _ | refine xA ?_ _) | refine xD ?_ | refine xN ?_ _ | exact xR _))⟩
  case measure => simp [intOf]; omega
 have hjj : ¬ ((j + 1 : Nat) : Int) ≤ (T : Int) := by omega
 obtain rfl : j = T := by omega
 go_wp2_with fail
 go_ret
 exact ⟨_, rfl, HXw.out, by rw [HM.out]; exact Own.mono HO.out HEU.out.size⟩
end Go.Proofs.YtdpbcfjfnclpiaaDoor
namespace Go.Proofs.YtdpbcfjfnclpiaaDoor
set_option linter.unusedSimpArgs false
set_option linter.unusedVariables false
open Go.RowKit
abbrev Wsl (w : World) (v : Value) (l : List Wd) : Prop := Sl w 3 wdE v l
theorem mwdE_one (e : Wd) : ∀ u ∈ wdE e, u.oneCell' = true := by
 intro u hu
 simp only [wdE, List.mem_cons, List.not_mem_nil, or_false] at hu
 rcases hu with rfl | rfl | rfl <;> rfl
theorem mws_append {ops : Array Oper} {rest : List Oper} {o : Oper} {a : Act} {Q : Exit → Act → World → Prop} {w : World} {base : Nat} {v : Value} {l : List Wd} (hgd : o.guard = none)
 (s x : Operand) (ho : o.op = .call { callee := .builtin .append, args := #[s, x], argTypes := #[41, 41] })
 (W : World) (hW : Ext W w) (hWb : W.heap.size ≤ base) (hbw : base ≤ w.heap.size) (hs : a.eval s = v) (hown : Ws w base v l)
 (ad : Addr) (m c : Nat) (hx : a.eval x = .slice (some ad) m c) (news : List Wd) (hm : news.length = m)
 (hnews : ∀ (j : Nat) (u : Value), (news.flatMap wdE)[j]? = some u → w.cell? (ad.add j) = some u)
 (hlen : l.length + m ≤ 1000000)
 (h : ∀ v' r, Ws (ext W r) base v' (l ++ news) → wpList Tryd.prog ops Q rest (a.put o.dst v') (ext W r)) : wpList Tryd.prog ops Q (o :: rest) a w := by
 obtain ⟨i0, hi, hz0, hz1, hz2⟩ := info_parts Tryd.infoWord
 exact own_append Tryd.underlying41 hi hz0 hz1 hz2 rfl (by decide) wdE_len mwdE_one hgd s x ho W hW hWb hbw hs hown ad m c hx news hm hnews (by unfold maxLen; omega) (by omega) h
set_option maxHeartbeats 1000000 in
theorem clone_any (l : List Wd) (v : Value) (w : World) (hl : l.length ≤ 100000) (hv : Wsl w v l) :
 Calls Tryd.prog 46 #[v] w fun y w' => ∃ v', y = .returned v' ∧ (∃ r, w' = ext w r) ∧ Ws w' w.heap.size v' l := by
 have HV := hid hv
 obtain ⟨a, c, rfl, ⟨hm, hlc⟩, hr⟩ := hv
 have hnil := fun (w : World) (a : Option Addr) (n c : Nat) => Lib.run_eql_slice_nil (P := Tryd.prog) w 41 40 a n c 0 0 Tryd.underlying41
 cases a with
 | none =>
  have hl0 : l = [] := by
   cases l with
   | nil => rfl
   | cons x r => obtain ⟨b, o, h, _⟩ := hr (by simp); cases h
  clear hr HV
  go_enter Tryd.func46, Tryd.ntmps46
  go_wp2_with fail
  go_ret
  exact ⟨_, rfl, by (show Ext _ _; repeat first | (with_reducible first | (refine xH ?_; assumption) | exact xR _ | refine xX ?_ _ | refine xA ?_ _) | refine xD ?_ | refine xN ?_ _ | exact xR _), by rw [hl0]; exact Own.nil⟩
 | some ad =>
  have HF := hid (Sl.flat wdE_len (by omega) HV.out)
  have HN := hid (show ([] : List Wd) ++ l = l from rfl)
  have hb : w.heap.size ≤ (w.alloc (.cells #[] 40)).heap.size := by simp
  clear hr HV
  go_enter Tryd.func46, Tryd.ntmps46
  go_wp2_with (at_builtin; refine mws_append rfl _ _ rfl w (by (show Ext _ _; repeat first | (with_reducible first | (refine xH ?_; assumption) | exact xR _ | refine xX ?_ _ | refine xA ?_ _) | refine xD ?_ | refine xN ?_ _ | exact xR _)) (Nat.le_refl _) (by (first | exact Nat.le_refl _ | (simp; done) | (simp; omega))) rfl (Own.made #[] [] 0 rfl (Nat.le_refl _) (by unfold maxLen; omega) rfl rfl) ad l.length c rfl l rfl (fun j u hu => Ext.cell (Ext.of_alloc _ _) (HF.out j u hu)) (by simp; omega) ?_; rintro v' r' hv')
  go_ret
  exact ⟨_, rfl, by (show Ext _ _; repeat first | (with_reducible first | (refine xH ?_; assumption) | exact xR _ | refine xX ?_ _ | refine xA ?_ _) | refine xD ?_ | refine xN ?_ _ | exact xR _), hv'⟩
def clr (x : Wd) : Wd := (x.1, x.2.1, 0)
def newL (l : List Wd) : List Wd := l.map clr
def newTo (l : List Wd) (j : Nat) : List Wd := (l.take j).map clr ++ l.drop j
end Go.Proofs.YtdpbcfjfnclpiaaDoor
