/- The contract of package desc's Read: every way. The walk of package desc's Logical. The walk of package desc's Logical. -/
import Derived.Test.YtdpbcfjfnclpiaaDoorPk13
import Derived.Test.YtdpbcfjfnclpiaaDoorPk03
namespace Go.Proofs.YtdpbcfjfnclpiaaDoor
set_option linter.unusedSimpArgs false
set_option linter.unusedVariables false
open Go.RowKit
theorem read_any (t c b who : Int) (hw1 : -9223372036854775808 ≤ who) (hw2 : who ≤ 9223372036854775807) (l : List Wd) (v : Value) (hok : ∀ a ∈ l, WdOk a) (w : World) (hs : Szs w) (hv : Sl w 3 wdE v l) :
 Calls Tryd.prog 63 #[.agg #[.int .i64 t, .int .i64 c, .int .i64 b], v, .int .i64 who] w fun y w' => ReadPost w t c b l who y w' := by
 by_cases hbad : (checkN t c b ≠ 0 ∨ (l.length : Int) < sizeN t c b) ∨ (placeN t c b who).2 = 0
 ·refine (read_early t c b who hw1 hw2 l v w hs hv hbad).mono ?_
  rintro y w' ⟨rfl, h, hr⟩
  exact ⟨hr, by rw [h]⟩
 ·have h1 : checkN t c b = 0 := by
   by_cases h : checkN t c b = 0
   ·exact h
   ·exact absurd (.inl (.inl h)) hbad
  have h2 : ¬ (l.length : Int) < sizeN t c b := fun h => hbad (.inl (.inr h))
  have h3 : (placeN t c b who).2 ≠ 0 := fun h => hbad (.inr h)
  have hroom := place_room h3
  have hp1 := place_bd t c b who
  obtain ⟨⟨s1, s2, s3⟩, hsx⟩ : ∃ s, l[(placeN t c b who).1.toNat]? = some s := ⟨_, List.getElem?_eq_getElem (by omega)⟩
  obtain ⟨⟨n1, n2, n3⟩, hnx⟩ : ∃ s, l[(placeN t c b who).1.toNat + 1]? = some s := ⟨_, List.getElem?_eq_getElem (by omega)⟩
  by_cases hhd : headB (s1, s2, s3) (n1, n2, n3) (placeN t c b who).2 = true
  ·exact read_good t c b who hw1 hw2 l v w hs hv hok h1 h2 h3 s1 s2 s3 n1 n2 n3 hsx hnx hhd
  ·exact read_bad t c b who hw1 hw2 l v w hs hv hok h1 h2 h3 s1 s2 s3 n1 n2 n3 hsx hnx hhd
end Go.Proofs.YtdpbcfjfnclpiaaDoor
namespace Go.Proofs.YtdpbcfjfnclpiaaDoor
set_option linter.unusedSimpArgs false
set_option linter.unusedVariables false
open Go.RowKit
def findW (p : Int) : List En → Option Int
 | [] => none
 | e :: r => if e.loc = p ∧ e.wr = true then some e.new else findW p r
theorem findW_at {p : Int} {l : List En} {j : Nat} {e : En} (h : l[j]? = some e) : findW p (l.drop j) = if e.loc = p ∧ e.wr = true then some e.new else findW p (l.drop (j + 1)) := by
 obtain ⟨hj, hk⟩ := List.getElem?_eq_some_iff.1 h
 rw [List.drop_eq_getElem_cons hj, hk]; rfl
def outW (x1 x2 : Int) : Option Int → Wd
 | some v => (v, (x2 + 1) % 4294967296, 0)
 | none => (x1, x2, 0)
def logicW (t c b : Int) (l : List Wd) (x : Wd) (p : Int) : Wd :=
 if (whoN x.2.2).1 = 0 then (x.1, x.2.1, 0) else match (readN t c b l (whoN x.2.2).1).2 with
  | none => (x.1, x.2.1, 0)
  | some (seq, st, es) => if seq = (whoN x.2.2).2 ∧ st = 1 then outW x.1 x.2.1 (findW p es) else (x.1, x.2.1, 0)
def logicN (t c b : Int) (l : List Wd) (p : Int) : Wd × Int :=
 if checkN t c b ≠ 0 ∨ (l.length : Int) < sizeN t c b then ((0, 0, 0), 1) else if mayN t c b p = false then ((0, 0, 0), 10)
 else match l[p.toNat]? with | some x => (logicW t c b l x p, 0) | none => ((0, 0, 0), 0)
theorem may_bd {t c b p : Int} (h : mayN t c b p = true) : rightN t c b = true ∧ 0 ≤ p ∧ p < sizeN t c b := by
 unfold mayN at h
 rw [Bool.and_eq_true] at h
 obtain ⟨hr, h⟩ := h
 have hk := (right_lok hr).1
 have h7 := from_le7 hk
 have m2 : fromN t c b 2 ≤ fromN t c b 3 := from_mono hk 2
 have m3 : fromN t c b 3 ≤ fromN t c b 4 := from_mono hk 3
 have m0 : fromN t c b 0 ≤ fromN t c b 1 := from_mono hk 0
 have m1 : fromN t c b 1 ≤ fromN t c b 2 := from_mono hk 1
 have f0 : fromN t c b 0 = 0 := rfl
 have hs : sizeN t c b = fromN t c b 7 := by unfold sizeN; rw [if_pos hr]
 have hc : fromN t c b 3 + c ≤ fromN t c b 4 := by
  obtain ⟨h1, h2, h3, h4, h5, h6⟩ := hk
  simp only [fromN, longN, manyN, szN, upN]
  simp
  omega
 have ht : 0 ≤ t * 104 := by
  obtain ⟨h1, h2, h3, h4, h5, h6⟩ := hk
  omega
 refine ⟨hr, ?_⟩
 rw [hs]
 rw [Bool.or_eq_true, decide_eq_true_eq, decide_eq_true_eq] at h
 rcases h with h | h <;> constructor <;> omega
theorem readN_none {t c b who : Int} {l : List Wd} (h : (readN t c b l who).2 = none) (hr : rightN t c b = true) : (readN t c b l who).1 ≠ 0 := by
 unfold readN at h ⊢
 split
 ·simp
 ·split
  ·simp
  ·rename_i h1 h2
   rw [if_neg h1, if_neg h2] at h
   split
   ·rename_i s n hs hn
    rw [hs, hn] at h
    dsimp only at h
    split
    ·rename_i h3
     rw [if_pos h3] at h
     split
     ·rename_i es he
      rw [he] at h
      dsimp only at h
      split
      ·rename_i h4
       rw [if_pos h4] at h
       cases h
      ·simp
     ·simp
    ·simp
   ·simp
end Go.Proofs.YtdpbcfjfnclpiaaDoor
namespace Go.Proofs.YtdpbcfjfnclpiaaDoor
set_option linter.unusedSimpArgs false
set_option linter.unusedVariables false
open Go.RowKit
def LogPost (w : World) (t c b : Int) (l : List Wd) (p : Int) (y : Ending) (w' : World) : Prop :=
 y = .returned (.tuple #[.agg #[.int .i64 (logicN t c b l p).1.1, .int .u32 (logicN t c b l p).1.2.1, .int .u32 (logicN t c b l p).1.2.2], .int .i64 (logicN t c b l p).2]) ∧ ∃ r, w' = ext w r
theorem LogPost.mk {w : World} {t c b : Int} {l : List Wd} {p : Int} {w' : World} {x1 x2 x3 e : Int} (h : logicN t c b l p = ((x1, x2, x3), e)) (hr : ∃ r, w' = ext w r) :
 LogPost w t c b l p (.returned (.tuple #[.agg #[.int .i64 x1, .int .u32 x2, .int .u32 x3], .int .i64 e])) w' := by
 unfold LogPost; rw [h]; exact ⟨rfl, hr⟩
set_option maxRecDepth 100000 in
set_option maxHeartbeats 2000000 in
theorem logical_early (t c b p : Int) (hw1 : -9223372036854775808 ≤ p) (hw2 : p ≤ 9223372036854775807) (l : List Wd) (v : Value) (hok : ∀ a ∈ l, WdOk a) (w : World) (hs : Szs w) (hv : Sl w 3 wdE v l)
 (hbad : (checkN t c b ≠ 0 ∨ (l.length : Int) < sizeN t c b) ∨ mayN t c b p = false) :
 Calls Tryd.prog 47 #[.agg #[.int .i64 t, .int .i64 c, .int .i64 b], v, .int .i64 p] w fun y w' => LogPost w t c b l p y w' := by
 have HS := hid hs
 obtain ⟨a, cp, rfl, ⟨hm, hlc⟩, _⟩ := hv
 clear hs
 by_cases h1 : checkN t c b = 0
 rotate_left
 ·have HR := hid (show logicN t c b l p = ((0, 0, 0), 1) by unfold logicN; rw [if_pos (.inl h1)])
  have hb : (checkN t c b != 0) = true := by simpa using h1
  clear h1 hbad
  go_enter Tryd.func47, Tryd.ntmps47
  go_wp2_with fail
  go_call (check_any t c b _ (HS.out.of (by (show Ext _ _; repeat first | (with_reducible first | (refine xH ?_; assumption) | exact xR _ | refine xX ?_ _ | refine xA ?_ _) | refine xD ?_ | refine xN ?_ _ | exact xR _)))) as e w' ⟨rfl, r1, rfl⟩
  (repeat (first | go_values | go_skip | go_guarded | go_step | go_upon | (simp only [Int.not_lt, Int.not_le] at *; go_simp) | (go_ite <;> go_prune <;> (try go_simp))))
  exact bodyPost_ret (v := .tuple #[.agg #[.int .i64 0, .int .u32 0, .int .u32 0], .int .i64 1]) (by simp [results, Tryd.results47, go_sem]) rfl (LogPost.mk HR.out (by (show Ext _ _; repeat with_reducible first | (refine xH ?_; assumption) | exact xR _ | refine xX ?_ _ | refine xA ?_ _ | refine xD ?_ | refine xS ?_ (by (try dsimp only); first | omega | (simp; done) | (simp; omega)) _)))
 by_cases h2 : (l.length : Int) < sizeN t c b
 ·have HR := hid (show logicN t c b l p = ((0, 0, 0), 1) by unfold logicN; rw [if_pos (.inr h2)])
  have H1 := hid h1
  obtain ⟨z, hz⟩ : ∃ z, z = sizeN t c b := ⟨_, rfl⟩
  rw [← hz] at h2
  have HZ := hid hz
  clear hz h1 hbad
  go_enter Tryd.func47, Tryd.ntmps47
  go_wp2_with fail
  go_call (check_any t c b _ (HS.out.of (by (show Ext _ _; repeat first | (with_reducible first | (refine xH ?_; assumption) | exact xR _ | refine xX ?_ _ | refine xA ?_ _) | refine xD ?_ | refine xN ?_ _ | exact xR _)))) as e w' ⟨rfl, r1, rfl⟩
  rw [H1.out]
  go_wp2_with fail
  go_call (size_any t c b _ (HS.out.of (by (show Ext _ _; repeat first | (with_reducible first | (refine xH ?_; assumption) | exact xR _ | refine xX ?_ _ | refine xA ?_ _) | refine xD ?_ | refine xN ?_ _ | exact xR _)))) as e w' ⟨rfl, r2, rfl⟩
  rw [← HZ.out]
  (repeat (first | go_values | go_skip | go_guarded | go_step | go_upon | (simp only [Int.not_lt, Int.not_le] at *; go_simp) | (go_ite <;> go_prune <;> (try go_simp))))
  exact bodyPost_ret (v := .tuple #[.agg #[.int .i64 0, .int .u32 0, .int .u32 0], .int .i64 1]) (by simp [results, Tryd.results47, go_sem]) rfl (LogPost.mk HR.out (by (show Ext _ _; repeat with_reducible first | (refine xH ?_; assumption) | exact xR _ | refine xX ?_ _ | refine xA ?_ _ | refine xD ?_ | refine xS ?_ (by (try dsimp only); first | omega | (simp; done) | (simp; omega)) _)))
 ·have h3 : mayN t c b p = false := by
   rcases hbad with (h | h) | h
   ·exact absurd h1 h
   ·exact absurd h h2
   ·exact h
  have HR := hid (show logicN t c b l p = ((0, 0, 0), 10) by
   unfold logicN; rw [if_neg (by rintro (h | h); exact h h1; exact h2 h), if_pos h3])
  have H1 := hid h1
  have H3 := hid h3
  obtain ⟨z, hz⟩ : ∃ z, z = sizeN t c b := ⟨_, rfl⟩
  rw [← hz] at h2
  have HZ := hid hz
  clear hz h1 h3 hbad
  go_enter Tryd.func47, Tryd.ntmps47
  go_wp2_with fail
  go_call (check_any t c b _ (HS.out.of (by (show Ext _ _; repeat first | (with_reducible first | (refine xH ?_; assumption) | exact xR _ | refine xX ?_ _ | refine xA ?_ _) | refine xD ?_ | refine xN ?_ _ | exact xR _)))) as e w' ⟨rfl, r1, rfl⟩
  rw [H1.out]
  go_wp2_with fail
  go_call (size_any t c b _ (HS.out.of (by (show Ext _ _; repeat first | (with_reducible first | (refine xH ?_; assumption) | exact xR _ | refine xX ?_ _ | refine xA ?_ _) | refine xD ?_ | refine xN ?_ _ | exact xR _)))) as e w' ⟨rfl, r2, rfl⟩
  rw [← HZ.out]
  go_wp2_with fail
  go_call (may_any t c b p hw1 hw2 _ (HS.out.of (by (show Ext _ _; repeat first | (with_reducible first | (refine xH ?_; assumption) | exact xR _ | refine xX ?_ _ | refine xA ?_ _) | refine xD ?_ | refine xN ?_ _ | exact xR _)))) as e w' ⟨rfl, r3, rfl⟩
  rw [H3.out]
  (repeat (first | go_values | go_skip | go_guarded | go_step | go_upon | (simp only [Int.not_lt, Int.not_le] at *; go_simp) | (go_ite <;> go_prune <;> (try go_simp))))
  exact bodyPost_ret (v := .tuple #[.agg #[.int .i64 0, .int .u32 0, .int .u32 0], .int .i64 10]) (by simp [results, Tryd.results47, go_sem]) rfl (LogPost.mk HR.out (by (show Ext _ _; repeat with_reducible first | (refine xH ?_; assumption) | exact xR _ | refine xX ?_ _ | refine xA ?_ _ | refine xD ?_ | refine xS ?_ (by (try dsimp only); first | omega | (simp; done) | (simp; omega)) _)))
set_option maxRecDepth 100000 in
set_option maxHeartbeats 2000000 in
theorem logical_late (t c b p : Int) (hw1 : -9223372036854775808 ≤ p) (hw2 : p ≤ 9223372036854775807) (l : List Wd) (v : Value) (hok : ∀ a ∈ l, WdOk a) (w : World) (hs : Szs w) (hv : Sl w 3 wdE v l)
 (h1 : checkN t c b = 0) (h2 : ¬ (l.length : Int) < sizeN t c b) (h3 : mayN t c b p = true) :
 Calls Tryd.prog 47 #[.agg #[.int .i64 t, .int .i64 c, .int .i64 b], v, .int .i64 p] w fun y w' => LogPost w t c b l p y w' := by
 have HS := hid hs
 have HVl := hid hv
 obtain ⟨a, cp, rfl, ⟨hm, hlc⟩, _⟩ := hv
 obtain ⟨hr, hp0, hpz⟩ := may_bd h3
 have HRt := hid hr
 have HOk := hid hok
 obtain ⟨n, rfl⟩ := Int.eq_ofNat_of_zero_le hp0
 have hnl : n < l.length := by omega
 have hx := List.getElem?_eq_getElem hnl
 generalize l[n] = x at hx
 have hxk := hok x (List.mem_of_getElem? hx)
 obtain ⟨g0, bb, oo, hab, hbl, hcs⟩ := Sl.at HVl.out hx
 subst hab
 obtain ⟨x1, x2, x3⟩ := x
 have k0 := hcs 0 (by omega)
 have k1 := hcs 1 (by omega)
 have k2 := hcs 2 (by omega)
 simp [wdE] at k0 k1 k2
 have HQ := hid (show logicN t c b l n = (logicW t c b l (x1, x2, x3) n, 0) by
  unfold logicN; rw [if_neg (by rintro (h | h); exact h h1; exact h2 h), if_neg (by rw [h3]; simp), Int.toNat_natCast, hx])
 obtain ⟨_, ⟨hx0, hx1⟩, ⟨hx2, hx3⟩⟩ := hxk
 dsimp only at hx0 hx1 hx2 hx3
 have H1 := hid h1
 have H3 := hid h3
 obtain ⟨z, hz⟩ : ∃ z, z = sizeN t c b := ⟨_, rfl⟩
 rw [← hz] at h2 hpz
 have HZ := hid hz
 obtain ⟨⟨who, sq⟩, hwq⟩ : ∃ q, q = whoN x3 := ⟨_, rfl⟩
 have HW := hid hwq
 have hwho : 0 ≤ who ∧ who ≤ 72 := by
  unfold whoN at hwq
  split at hwq <;> cases hwq <;> omega
 obtain ⟨hwh0, hwh1⟩ := hwho
 have hnn : (n : Int) < (l.length : Int) := by omega
 clear hs hok hcs hx h1 h3 hz hr g0 hwq hpz
 go_enter Tryd.func47, Tryd.ntmps47
 go_wp2_with fail
 go_call (check_any t c b _ (HS.out.of (by (show Ext _ _; repeat first | (with_reducible first | (refine xH ?_; assumption) | exact xR _ | refine xX ?_ _ | refine xA ?_ _) | refine xD ?_ | refine xN ?_ _ | exact xR _)))) as e w' ⟨rfl, r1, rfl⟩
 rw [H1.out]
 go_wp2_with fail
 go_call (size_any t c b _ (HS.out.of (by (show Ext _ _; repeat first | (with_reducible first | (refine xH ?_; assumption) | exact xR _ | refine xX ?_ _ | refine xA ?_ _) | refine xD ?_ | refine xN ?_ _ | exact xR _)))) as e w' ⟨rfl, r2, rfl⟩
 rw [← HZ.out]
 go_wp2_with fail
 go_call (may_any t c b n hw1 hw2 _ (HS.out.of (by (show Ext _ _; repeat first | (with_reducible first | (refine xH ?_; assumption) | exact xR _ | refine xX ?_ _ | refine xA ?_ _) | refine xD ?_ | refine xN ?_ _ | exact xR _)))) as e w' ⟨rfl, r3, rfl⟩
 rw [H3.out]
 go_wp2_with fail
 go_call (who_any x3 hx2 hx3 _) as e w' ⟨rfl, r4, rfl⟩
 rw [← HW.out]
 by_cases h0 : who = 0
 ·subst h0
  have HR := hid (show logicN t c b l n = ((x1, x2, 0), 0) by rw [HQ.out]; unfold logicW; rw [if_pos (by rw [← HW.out])])
  (repeat (first | go_values | go_skip | go_guarded | go_step | go_upon | (simp only [Int.not_lt, Int.not_le] at *; go_simp) | (go_ite <;> go_prune <;> (try go_simp))))
  exact bodyPost_ret (v := .tuple #[.agg #[.int .i64 x1, .int .u32 x2, .int .u32 0], .int .i64 0]) (by simp [results, Tryd.results47, go_sem]) rfl (LogPost.mk HR.out (by (show Ext _ _; repeat with_reducible first | (refine xH ?_; assumption) | exact xR _ | refine xX ?_ _ | refine xA ?_ _ | refine xD ?_ | refine xS ?_ (by (try dsimp only); first | omega | (simp; done) | (simp; omega)) _)))
 have h0b : (who == 0) = false := by simpa using h0
 have H0 := hid h0
 clear h0
 go_wp2_with fail
 refine (read_any t c b who (by omega) (by omega) l _ HOk.out _ (HS.out.of (by (show Ext _ _; repeat first | (with_reducible first | (refine xH ?_; assumption) | exact xR _ | refine xX ?_ _ | refine xA ?_ _) | refine xD ?_ | refine xN ?_ _ | exact xR _))) (HVl.out.of wdE_len (by (show Ext _ _; repeat first | (with_reducible first | (refine xH ?_; assumption) | exact xR _ | refine xX ?_ _ | refine xA ?_ _) | refine xD ?_ | refine xN ?_ _ | exact xR _)))).mono ?_
 rintro y w' ⟨⟨r5, rfl⟩, hy⟩
 have HLw := hid (show logicW t c b l (x1, x2, x3) n = match (readN t c b l who).2 with
  | none => (x1, x2, 0)
  | some (seq, st, es) => if seq = sq ∧ st = 1 then outW x1 x2 (findW n es) else (x1, x2, 0) by
  unfold logicW; rw [if_neg (by rw [← HW.out]; exact H0.out), ← HW.out]; try rfl)
 cases hrd : (readN t c b l who).2 with
 | none =>
  rw [hrd] at hy
  dsimp only at hy
  subst hy
  have hne := readN_none hrd HRt.out
  have HR := hid (show logicN t c b l n = ((x1, x2, 0), 0) by rw [HQ.out, HLw.out, hrd])
  have hb : ((readN t c b l who).1 != 0) = true := by simpa using hne
  clear hrd hne
  (repeat (first | go_values | go_skip | go_guarded | go_step | go_upon | (simp only [Int.not_lt, Int.not_le] at *; go_simp) | (go_ite <;> go_prune <;> (try go_simp))))
  exact bodyPost_ret (v := .tuple #[.agg #[.int .i64 x1, .int .u32 x2, .int .u32 0], .int .i64 0]) (by simp [results, Tryd.results47, go_sem]) rfl (LogPost.mk HR.out (by (show Ext _ _; repeat with_reducible first | (refine xH ?_; assumption) | exact xR _ | refine xX ?_ _ | refine xA ?_ _ | refine xD ?_ | refine xS ?_ (by (try dsimp only); first | omega | (simp; done) | (simp; omega)) _)))
 | some q =>
  obtain ⟨seq, st, es⟩ := q
  rw [hrd] at hy
  dsimp only at hy
  obtain ⟨v', rfl, hes⟩ := hy
  have HEs := hid hes
  obtain ⟨ae, ce, rfl, ⟨hme, hlce⟩, _⟩ := hes
  have HLv := hid (show logicN t c b l n = (if seq = sq ∧ st = 1 then outW x1 x2 (findW n es) else (x1, x2, 0), 0) by rw [HQ.out, HLw.out, hrd])
  clear hrd HLw HQ
  by_cases hm2 : seq = sq ∧ st = 1
  rotate_left
  ·have HR := hid (show logicN t c b l n = ((x1, x2, 0), 0) by rw [HLv.out, if_neg hm2])
   have hcs : (seq != sq) = true ∨ ((seq != sq) = false ∧ (st != 1) = true) := by
    by_cases h5 : seq = sq
    ·exact .inr ⟨by simp [h5], by simp; intro h6; exact hm2 ⟨h5, h6⟩⟩
    ·exact .inl (by simpa using h5)
   clear hm2
   rcases hcs with h5 | ⟨h5, h6⟩
   all_goals
    (repeat (first | go_values | go_skip | go_guarded | go_step | go_upon | (simp only [Int.not_lt, Int.not_le] at *; go_simp) | (go_ite <;> go_prune <;> (try go_simp))))
    exact bodyPost_ret (v := .tuple #[.agg #[.int .i64 x1, .int .u32 x2, .int .u32 0], .int .i64 0]) (by simp [results, Tryd.results47, go_sem]) rfl (LogPost.mk HR.out (by (show Ext _ _; repeat with_reducible first | (refine xH ?_; assumption) | exact xR _ | refine xX ?_ _ | refine xA ?_ _ | refine xD ?_ | refine xS ?_ (by (try dsimp only); first | omega | (simp; done) | (simp; omega)) _)))
  ·obtain ⟨rfl, rfl⟩ := hm2
   have HFi := hid (show logicN t c b l n = (outW x1 x2 (findW n (es.drop 0)), 0) by rw [HLv.out, if_pos ⟨rfl, rfl⟩]; rfl)
   clear HLv
   go_wp2_with fail
   generalize hW : World.alloc _ _ = W
   have HB6 := hid (show Blk W (w.heap.size + 1) [.int .i64 0, .int .u32 0, .int .u32 0] by rw [← hW]; (show Blk _ _ _; repeat first | (with_reducible first | (refine xH ?_; assumption) | refine bD ?_ | refine bX ?_ _) | (with_reducible refine bN _ _ rfl ?_; first | with_reducible rfl | (simp; done)) | (with_reducible first | refine bA ?_ _ | assumption | apply bS) | (with_reducible refine bO ?_ ?_; first | omega | (simp; omega)) | (show List.set _ _ _ = _; exact rfl) | (show _ < List.length _; simp; done)))
   have HB8 := hid (show Blk W (w.heap.size + 1 + 1 + r1.new.size + r2.new.size + r3.new.size) [.int .i64 x1, .int .u32 x2, .int .u32 x3] by rw [← hW]; (show Blk _ _ _; repeat first | (with_reducible first | (refine xH ?_; assumption) | refine bD ?_ | refine bX ?_ _) | (with_reducible refine bN _ _ rfl ?_; first | with_reducible rfl | (simp; done)) | (with_reducible first | refine bA ?_ _ | assumption | apply bS) | (with_reducible refine bO ?_ ?_; first | omega | (simp; omega)) | (show List.set _ _ _ = _; exact rfl) | (show _ < List.length _; simp; done)))
   have HB11 := hid (show Blk W (w.heap.size + 1 + 1 + r1.new.size + r2.new.size + r3.new.size + 1 + r4.new.size) [.int .i64 x1, .int .u32 x2, .int .u32 0] by rw [← hW]; (show Blk _ _ _; repeat first | (with_reducible first | (refine xH ?_; assumption) | refine bD ?_ | refine bX ?_ _) | (with_reducible refine bN _ _ rfl ?_; first | with_reducible rfl | (simp; done)) | (with_reducible first | refine bA ?_ _ | assumption | apply bS) | (with_reducible refine bO ?_ ?_; first | omega | (simp; omega)) | (show List.set _ _ _ = _; exact rfl) | (show _ < List.length _; simp; done)))
   have HWx := hid (show Ext w W by rw [← hW]; (show Ext _ _; repeat with_reducible first | (refine xH ?_; assumption) | exact xR _ | refine xX ?_ _ | refine xA ?_ _ | refine xD ?_ | refine xS ?_ (by (try dsimp only); first | omega | (simp; done) | (simp; omega)) _))
   have HE0 := hid (HEs.out.of enE_len (show Ext _ W by rw [← hW]; (show Ext _ _; repeat with_reducible first | (refine xH ?_; assumption) | exact xR _ | refine xX ?_ _ | refine xA ?_ _ | refine xD ?_ | refine xS ?_ (by (try dsimp only); first | omega | (simp; done) | (simp; omega)) _)))
   generalize w.heap.size + 1 + 1 + r1.new.size + r2.new.size + r3.new.size + 1 + r4.new.size = g11 at *
   generalize w.heap.size + 1 + 1 + r1.new.size + r2.new.size + r3.new.size = g8 at *
   clear hW
   go_loopw [76] (fun i wr => ∃ j : Nat, j ≤ es.length ∧ i = .int .i64 j ∧ Hid (logicN t c b l n = (outW x1 x2 (findW n (es.drop j)), 0)) ∧ Hid (Ext W wr)) (fun i _ => es.length - (intOf i).toNat)
   case atStart => exact ⟨0, by omega, rfl, HFi, hid (by (show Ext _ _; repeat first | (with_reducible first | (refine xH ?_; assumption) | exact xR _ | refine xX ?_ _ | refine xA ?_ _) | refine xD ?_ | refine xN ?_ _ | exact xR _))⟩
   case round =>
    clear HFi
    obtain ⟨j, hj, rfl, HFi, HX⟩ := hrel
    have HXw := hid (HWx.out.trans HX.out)
    have d0 := (HB6.out.of HX.out).2.2 0 _ rfl
    have d1 := (HB6.out.of HX.out).2.2 1 _ rfl
    have d2 := (HB6.out.of HX.out).2.2 2 _ rfl
    have d4 := (HB6.out.of HX.out).2.1 0
    have d5 := (HB6.out.of HX.out).2.1 1
    have d6 := (HB6.out.of HX.out).2.1 2
    have d7 := (HB6.out.of HX.out).1
    by_cases hjl : j < es.length
    ·have hd : decide (j < es.length) = true := decide_eq_true hjl
     obtain ⟨hnl, b0, o, hab, hbl, hcs⟩ := Sl.at HE0.out (List.getElem?_eq_getElem hjl)
     have HX1 := hid (List.getElem?_eq_getElem hjl)
     generalize es[j] = e at hcs HX1
     have HA := hid (findW_at (p := n) HX1.out)
     subst hab
     obtain ⟨loc, val, ver, ref, new, wr1⟩ := e
     have q0 := HX.out.cell (hcs 0 (by omega))
     have q1 := HX.out.cell (hcs 1 (by omega))
     have q2 := HX.out.cell (hcs 2 (by omega))
     have q3 := HX.out.cell (hcs 3 (by omega))
     have q4 := HX.out.cell (hcs 4 (by omega))
     have q5 := HX.out.cell (hcs 5 (by omega))
     simp [enE] at q0 q1 q2 q3 q4 q5
     have c1 := (HB8.out.of HX.out).2.2 1 _ rfl
     have c2 := (HB8.out.of HX.out).1
     clear hcs hnl
     by_cases hh : loc = n ∧ wr1 = true
     ·have HR := hid (show logicN t c b l n = ((new, (x2 + 1) % 4294967296, 0), 0) by rw [HFi.out, HA.out, if_pos hh]; rfl)
      obtain ⟨rfl, rfl⟩ := hh
      clear HFi HA
      (repeat (first | go_values | go_skip | go_guarded | go_step | go_upon | (simp only [Int.not_lt, Int.not_le] at *; go_simp) | (go_ite <;> go_prune <;> (try go_simp))))
      refine bodyPost_ret (v := .tuple #[.agg #[.int .i64 new, .int .u32 ((x2 + 1) % 4294967296), .int .u32 0], .int .i64 0]) (by simp [results, Tryd.results47, go_sem, d0, d1, d2, d7]) rfl (LogPost.mk HR.out (by (show Ext _ _; repeat with_reducible first | (refine xH ?_; assumption) | exact xR _ | refine xX ?_ _ | refine xA ?_ _ | refine xD ?_ | refine xS ?_ (by (try dsimp only); first | omega | (simp; done) | (simp; omega)) _)))
     ·have HN := hid (show logicN t c b l n = (outW x1 x2 (findW n (es.drop (j + 1))), 0) by rw [HFi.out, HA.out, if_neg hh])
      clear HFi HA
      have hcs : (loc == (n : Int)) = false ∨ ((loc == (n : Int)) = true ∧ wr1 = false) := by
       by_cases h5 : loc = n
       ·exact .inr ⟨by simp [h5], by cases wr1; rfl; exact absurd ⟨h5, rfl⟩ hh⟩
       ·exact .inl (by simpa using h5)
      clear hh
      rcases hcs with h5 | ⟨h5, rfl⟩
      all_goals
       go_wp2_with fail
       go_roundw
       case rel => exact ⟨j + 1, by omega, by go_num, HN, hid (by (show Ext _ _; repeat with_reducible first | (refine xH ?_; assumption) | exact xR _ | refine xX ?_ _ | refine xA ?_ _ | refine xD ?_ | refine xS ?_ (by (try dsimp only); first | omega | (simp; done) | (simp; omega)) _))⟩
       case measure => simp [intOf]; omega
    ·have hd : decide (j < es.length) = false := decide_eq_false hjl
     have HR := hid (show logicN t c b l n = ((x1, x2, 0), 0) by rw [HFi.out, List.drop_eq_nil_of_le (by omega)]; rfl)
     have c0 := (HB11.out.of HX.out).2.2 0 _ rfl
     have c1 := (HB11.out.of HX.out).2.2 1 _ rfl
     have c2 := (HB11.out.of HX.out).2.2 2 _ rfl
     clear HFi
     (repeat (first | go_values | go_skip | go_guarded | go_step | go_upon | (simp only [Int.not_lt, Int.not_le] at *; go_simp) | (go_ite <;> go_prune <;> (try go_simp))))
     refine bodyPost_ret (v := .tuple #[.agg #[.int .i64 x1, .int .u32 x2, .int .u32 0], .int .i64 0]) (by simp [results, Tryd.results47, go_sem, d0, d1, d2, d7]) rfl (LogPost.mk HR.out (by (show Ext _ _; repeat with_reducible first | (refine xH ?_; assumption) | exact xR _ | refine xX ?_ _ | refine xA ?_ _ | refine xD ?_ | refine xS ?_ (by (try dsimp only); first | omega | (simp; done) | (simp; omega)) _)))
theorem logical_any (t c b p : Int) (hw1 : -9223372036854775808 ≤ p) (hw2 : p ≤ 9223372036854775807) (l : List Wd) (v : Value) (hok : ∀ a ∈ l, WdOk a) (w : World) (hs : Szs w) (hv : Sl w 3 wdE v l) :
 Calls Tryd.prog 47 #[.agg #[.int .i64 t, .int .i64 c, .int .i64 b], v, .int .i64 p] w fun y w' => LogPost w t c b l p y w' := by
 by_cases hbad : (checkN t c b ≠ 0 ∨ (l.length : Int) < sizeN t c b) ∨ mayN t c b p = false
 ·exact logical_early t c b p hw1 hw2 l v hok w hs hv hbad
 ·refine logical_late t c b p hw1 hw2 l v hok w hs hv ?_ (fun h => hbad (.inl (.inr h))) ?_
  ·by_cases h : checkN t c b = 0
   ·exact h
   ·exact absurd (.inl (.inl h)) hbad
  ·cases h : mayN t c b p
   ·exact absurd (.inr h) hbad
   ·rfl
end Go.Proofs.YtdpbcfjfnclpiaaDoor
