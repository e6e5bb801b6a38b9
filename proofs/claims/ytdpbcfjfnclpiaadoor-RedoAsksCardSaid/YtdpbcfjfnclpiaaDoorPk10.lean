/- Plain: what Read of package desc answers; the walk of its ways that end early. Plain: a descriptor's room lies within the layout. Plain: the reference's Place is the layout's. -/
import Derived.Test.YtdpbcfjfnclpiaaDoorPk08
import Derived.Test.YtdpbcfjfnclpiaaDoorPk09
import Derived.Test.YtdpbcfjfnclpiaaDoorPk06
namespace Go.Proofs.YtdpbcfjfnclpiaaDoor
set_option linter.unusedSimpArgs false
set_option linter.unusedVariables false
open Go.RowKit
def unpackTo (l : List Wd) (p : Nat) : Nat → Option (List En)
 | 0 => some []
 | k + 1 => match unpackTo l p k, l[p + 3 * k]?, l[p + 3 * k + 1]?, l[p + 3 * k + 2]? with
  | some es, some x, some y, some z => if unpackB x y z = true then some (es ++ [unpackE x y z]) else none
  | _, _, _, _ => none
theorem unpackTo_len {l : List Wd} {p : Nat} : ∀ {k : Nat} {es : List En}, unpackTo l p k = some es → es.length = k
 | 0, es, h => by simp [unpackTo] at h; subst h; rfl
 | k + 1, es, h => by
  unfold unpackTo at h
  split at h
  ·rename_i es' x y z h1 h2 h3 h4
   split at h
   ·simp only [Option.some.injEq] at h
    subst h
    rw [List.length_append, unpackTo_len h1]; rfl
   ·cases h
  ·cases h
def headB (s n : Wd) (pm : Int) : Bool := decide (0 ≤ s.1 ∧ s.1 ≤ 3) && (decide (s.2.2 = 0) && decide (1 ≤ n.1 ∧ n.1 ≤ pm) && wdB n (n.1, 0, 0))
def readN (t c b : Int) (l : List Wd) (who : Int) : Int × Option (Int × Int × List En) :=
 if checkN t c b ≠ 0 ∨ (l.length : Int) < sizeN t c b then (1, none) else if (placeN t c b who).2 = 0 then (3, none)
 else match l[(placeN t c b who).1.toNat]?, l[(placeN t c b who).1.toNat + 1]? with
  | some s, some n => if headB s n (placeN t c b who).2 = true then
   (match unpackTo l ((placeN t c b who).1.toNat + 2) n.1.toNat with
    | some es => if dcheckN t c b who s.2.1 s.1 es = 0 then (0, some (s.2.1, s.1, es)) else (5, none)
    | none => (5, none))
   else (5, none)
  | _, _ => (5, none)
set_option maxRecDepth 100000 in
set_option maxHeartbeats 2000000 in
theorem read_early (t c b who : Int) (hw1 : -9223372036854775808 ≤ who) (hw2 : who ≤ 9223372036854775807) (l : List Wd) (v : Value) (w : World) (hs : Szs w) (hv : Sl w 3 wdE v l)
 (hbad : (checkN t c b ≠ 0 ∨ (l.length : Int) < sizeN t c b) ∨ (placeN t c b who).2 = 0) :
 Calls Tryd.prog 63 #[.agg #[.int .i64 t, .int .i64 c, .int .i64 b], v, .int .i64 who] w fun y w' => y = .returned (.tuple #[.agg #[.int .i64 0, .int .i64 0, .int .i64 0, .slice none 0 0], .int .i64 (readN t c b l who).1]) ∧ (readN t c b l who).2 = none ∧ ∃ r, w' = ext w r := by
 have HS := hid hs
 obtain ⟨a, cp, rfl, ⟨hm, hlc⟩, _⟩ := hv
 clear hs
 by_cases h0 : checkN t c b ≠ 0 ∨ (l.length : Int) < sizeN t c b
 ·have HR := hid (show readN t c b l who = (1, none) by unfold readN; rw [if_pos h0])
  rw [HR.out]
  by_cases h1 : checkN t c b = 0
  ·have h2 : (l.length : Int) < sizeN t c b := by rcases h0 with h | h; exact absurd h1 h; exact h
   have H1 := hid h1
   clear h0 h1 hbad
   obtain ⟨z, hz⟩ : ∃ z, z = sizeN t c b := ⟨_, rfl⟩
   rw [← hz] at h2
   have HZ := hid hz
   clear hz
   go_enter Tryd.func63, Tryd.ntmps63
   go_wp2_with fail
   go_call (check_any t c b _ (HS.out.of (by (show Ext _ _; repeat first | (with_reducible first | (refine xH ?_; assumption) | exact xR _ | refine xX ?_ _ | refine xA ?_ _) | refine xD ?_ | refine xN ?_ _ | exact xR _)))) as e w' ⟨rfl, r1, rfl⟩
   rw [H1.out]
   go_wp2_with fail
   go_call (size_any t c b _ (HS.out.of (by (show Ext _ _; repeat first | (with_reducible first | (refine xH ?_; assumption) | exact xR _ | refine xX ?_ _ | refine xA ?_ _) | refine xD ?_ | refine xN ?_ _ | exact xR _)))) as e w' ⟨rfl, r2, rfl⟩
   rw [← HZ.out]
   (repeat (first | go_values | go_skip | go_guarded | go_step | go_upon | (simp only [Int.not_lt, Int.not_le] at *; go_simp) | (go_ite <;> go_prune <;> (try go_simp))))
   exact bodyPost_ret (v := .tuple #[.agg #[.int .i64 0, .int .i64 0, .int .i64 0, .slice none 0 0], .int .i64 1]) (by simp [results, Tryd.results63, go_sem]) rfl ⟨rfl, by trivial, by (show Ext _ _; repeat with_reducible first | (refine xH ?_; assumption) | exact xR _ | refine xX ?_ _ | refine xA ?_ _ | refine xD ?_ | refine xS ?_ (by (try dsimp only); first | omega | (simp; done) | (simp; omega)) _)⟩
  ·have hb : (checkN t c b != 0) = true := by simpa using h1
   clear h0 h1 hbad
   go_enter Tryd.func63, Tryd.ntmps63
   go_wp2_with fail
   go_call (check_any t c b _ (HS.out.of (by (show Ext _ _; repeat first | (with_reducible first | (refine xH ?_; assumption) | exact xR _ | refine xX ?_ _ | refine xA ?_ _) | refine xD ?_ | refine xN ?_ _ | exact xR _)))) as e w' ⟨rfl, r1, rfl⟩
   (repeat (first | go_values | go_skip | go_guarded | go_step | go_upon | (simp only [Int.not_lt, Int.not_le] at *; go_simp) | (go_ite <;> go_prune <;> (try go_simp))))
   exact bodyPost_ret (v := .tuple #[.agg #[.int .i64 0, .int .i64 0, .int .i64 0, .slice none 0 0], .int .i64 1]) (by simp [results, Tryd.results63, go_sem]) rfl ⟨rfl, by trivial, by (show Ext _ _; repeat with_reducible first | (refine xH ?_; assumption) | exact xR _ | refine xX ?_ _ | refine xA ?_ _ | refine xD ?_ | refine xS ?_ (by (try dsimp only); first | omega | (simp; done) | (simp; omega)) _)⟩
 ·have h2 : (placeN t c b who).2 = 0 := by rcases hbad with h | h; exact absurd h h0; exact h
  have HR := hid (show readN t c b l who = (3, none) by unfold readN; rw [if_neg h0, if_pos h2])
  rw [HR.out]
  have H1 := hid (show checkN t c b = 0 by
   by_cases h : checkN t c b = 0
   ·exact h
   ·exact absurd (.inl h) h0)
  have H2 := hid h2
  have h3 : ¬ (l.length : Int) < sizeN t c b := fun h => h0 (.inr h)
  obtain ⟨z, hz⟩ : ∃ z, z = sizeN t c b := ⟨_, rfl⟩
  rw [← hz] at h3
  have HZ := hid hz
  clear hz h0 h2 hbad
  go_enter Tryd.func63, Tryd.ntmps63
  go_wp2_with fail
  go_call (check_any t c b _ (HS.out.of (by (show Ext _ _; repeat first | (with_reducible first | (refine xH ?_; assumption) | exact xR _ | refine xX ?_ _ | refine xA ?_ _) | refine xD ?_ | refine xN ?_ _ | exact xR _)))) as e w' ⟨rfl, r1, rfl⟩
  rw [H1.out]
  go_wp2_with fail
  go_call (size_any t c b _ (HS.out.of (by (show Ext _ _; repeat first | (with_reducible first | (refine xH ?_; assumption) | exact xR _ | refine xX ?_ _ | refine xA ?_ _) | refine xD ?_ | refine xN ?_ _ | exact xR _)))) as e w' ⟨rfl, r2, rfl⟩
  rw [← HZ.out]
  go_wp2_with fail
  go_call (place_any t c b who hw1 hw2 _ (HS.out.of (by (show Ext _ _; repeat first | (with_reducible first | (refine xH ?_; assumption) | exact xR _ | refine xX ?_ _ | refine xA ?_ _) | refine xD ?_ | refine xN ?_ _ | exact xR _)))) as e w' ⟨rfl, r3, rfl⟩
  rw [H2.out]
  (repeat (first | go_values | go_skip | go_guarded | go_step | go_upon | (simp only [Int.not_lt, Int.not_le] at *; go_simp) | (go_ite <;> go_prune <;> (try go_simp))))
  exact bodyPost_ret (v := .tuple #[.agg #[.int .i64 0, .int .i64 0, .int .i64 0, .slice none 0 0], .int .i64 3]) (by simp [results, Tryd.results63, go_sem]) rfl ⟨rfl, by trivial, by (show Ext _ _; repeat with_reducible first | (refine xH ?_; assumption) | exact xR _ | refine xX ?_ _ | refine xA ?_ _ | refine xD ?_ | refine xS ?_ (by (try dsimp only); first | omega | (simp; done) | (simp; omega)) _)⟩
end Go.Proofs.YtdpbcfjfnclpiaaDoor
namespace Go.Proofs.YtdpbcfjfnclpiaaDoor
set_option linter.unusedSimpArgs false
set_option linter.unusedVariables false
open Go.RowKit
theorem at_pos {t c b : Int} {p : Nat} {i : Int} (h : 0 ≤ atN t c b p i 0) : rightN t c b = true ∧ 0 ≤ i ∧ i < manyN t c b p ∧ atN t c b p i 0 = fromN t c b p + i * szN p := by
 unfold atN at h ⊢
 split at h
 ·rename_i hh
  rw [if_pos hh]
  exact ⟨hh.1, hh.2.1, hh.2.2, by omega⟩
 ·omega
theorem place_room {t c b who : Int} (hm : (placeN t c b who).2 ≠ 0) : 0 ≤ (placeN t c b who).1 ∧ (placeN t c b who).1 + 2 + 3 * (placeN t c b who).2 ≤ sizeN t c b := by
 by_cases h9 : 9 ≤ who
 ·by_cases hn : atN t c b 6 (who - 9) 0 < 0
  ·exact absurd (by simp [placeN, h9, hn]) hm
  ·obtain ⟨hr, h0, h1, h2⟩ := at_pos (Int.not_lt.1 hn)
   obtain ⟨q1, q2, _⟩ := from_le7 (right_lok hr).1
   have hp : placeN t c b who = (atN t c b 6 (who - 9) 0, 10) := by simp [placeN, h9, hn]
   rw [hp]
   simp only [manyN, szN] at h1 h2
   have hs : sizeN t c b = fromN t c b 7 := by unfold sizeN; rw [if_pos hr]
   rw [hs]
   constructor
   ·show 0 ≤ atN t c b 6 (who - 9) 0
    omega
   ·show atN t c b 6 (who - 9) 0 + 2 + 3 * 10 ≤ _
    omega
 ·by_cases hn : atN t c b 4 (wrap64 (who - 1)) 0 < 0
  ·exact absurd (by simp [placeN, h9, hn]) hm
  ·obtain ⟨hr, h0, h1, h2⟩ := at_pos (Int.not_lt.1 hn)
   obtain ⟨q1, q2, _⟩ := from_le7 (right_lok hr).1
   have hp : placeN t c b who = (atN t c b 4 (wrap64 (who - 1)) 0, 32) := by simp [placeN, h9, hn]
   rw [hp]
   simp only [manyN, szN] at h1 h2
   have hs : sizeN t c b = fromN t c b 7 := by unfold sizeN; rw [if_pos hr]
   rw [hs]
   constructor
   ·show 0 ≤ atN t c b 4 (wrap64 (who - 1)) 0
    omega
   ·show atN t c b 4 (wrap64 (who - 1)) 0 + 2 + 3 * 32 ≤ _
    omega
end Go.Proofs.YtdpbcfjfnclpiaaDoor
namespace Go.Proofs.YtdpbcfjfnclpiaaDoor
set_option linter.unusedSimpArgs false
set_option linter.unusedVariables false
open Go.RowKit
def mayL (t c b : Int) (n : Nat) : List Bool := (List.range n).map (fun i : Nat => mayN t c b i)
theorem mayL_len (t c b : Int) (n : Nat) : (mayL t c b n).length = n := by simp [mayL]
theorem wrap_pre {x : Int} (h0 : -9223372036854775808 ≤ x) (h1 : x ≤ 9223372036854775807) : (1 ≤ x ∧ wrap64 (x - 1) = x - 1) ∨ (x < 1 ∧ (wrap64 (x - 1) < 0 ∨ 9223372036854775807 ≤ wrap64 (x - 1))) := by
 by_cases h : 1 ≤ x
 ·exact .inl ⟨h, IntWalk.wrap64_in _ ⟨by omega, by omega⟩⟩
 ·right
  refine ⟨by omega, ?_⟩
  by_cases h2 : -9223372036854775808 ≤ x - 1
  ·left; rw [IntWalk.wrap64_in _ ⟨by omega, by omega⟩]; omega
  ·right
   have : x = -9223372036854775808 := by omega
   subst this
   simp [wrap64]
theorem place_law {T C B sl rm : Nat} (hr : rightN T C B = true) (hT : T ≤ 8) (hsl : (sl : Int) = fromN T C B 4) (hrm : (rm : Int) = if 0 < B then fromN T C B 6 else 0) (who : Int) (h0 : -9223372036854775808 ≤ who) (h1 : who ≤ 9223372036854775807) :
 rplaceN T B sl rm who = placeN T C B who := by
 obtain ⟨g1, g2, g3, g4, g5⟩ := from_le7 (right_lok hr).1
 by_cases h9 : 9 ≤ who
 ·by_cases hb : who < 9 + B
  ·have hB : 0 < B := by omega
   rw [if_pos hB] at hrm
   have ha : atN T C B 6 (who - 9) 0 = (rm : Int) + (who - 9) * 32 := by
    unfold atN; rw [if_pos ⟨hr, by omega, by simp [manyN]; omega⟩]; simp only [szN]; omega
   unfold rplaceN placeN
   rw [if_neg (by omega), if_pos (by omega)]
   simp only [ha, h9, if_true]
   rw [if_neg (by omega)]
  ·have ha : atN T C B 6 (who - 9) 0 = -1 := by
    unfold atN; rw [if_neg (by simp only [manyN]; omega)]
   unfold rplaceN placeN
   rw [if_neg (by omega), if_neg (by omega)]
   simp [ha, h9]
 ·rcases wrap_pre h0 h1 with ⟨h2, h3⟩ | ⟨h2, h3⟩
  ·by_cases ht : who ≤ T
   ·have ha : atN T C B 4 (wrap64 (who - 1)) 0 = (sl : Int) + (who - 1) * 104 := by
     rw [h3]; unfold atN; rw [if_pos ⟨hr, by omega, by simp [manyN]; omega⟩]; simp only [szN]; omega
    unfold rplaceN placeN
    rw [if_pos (by omega)]
    simp only [ha, h9, if_false]
    rw [if_neg (by omega)]
   ·have ha : atN T C B 4 (wrap64 (who - 1)) 0 = -1 := by
     rw [h3]; unfold atN; rw [if_neg (by simp only [manyN]; omega)]
    unfold rplaceN placeN
    rw [if_neg (by omega), if_neg (by omega)]
    simp [ha, h9]
  ·have ha : atN T C B 4 (wrap64 (who - 1)) 0 = -1 := by
    unfold atN; rw [if_neg (by simp only [manyN]; omega)]
   unfold rplaceN placeN
   rw [if_neg (by omega), if_neg (by omega)]
   simp [ha, h9]
theorem place_neg {t c b who : Int} (h : (placeN t c b who).2 = 0) : placeN t c b who = (-1, 0) := by
 by_cases h9 : 9 ≤ who
 ·by_cases hn : atN t c b 6 (who - 9) 0 < 0
  ·simp [placeN, h9, hn]
  ·simp [placeN, h9, hn] at h
 ·by_cases hn : atN t c b 4 (wrap64 (who - 1)) 0 < 0
  ·simp [placeN, h9, hn]
  ·simp [placeN, h9, hn] at h
end Go.Proofs.YtdpbcfjfnclpiaaDoor
