/- Walks of package layout's exported functions: locations, Place, Bits, May. -/
import Derived.Test.YtdpbcfjfnclpiaaDoorPk01
namespace Go.Proofs.YtdpbcfjfnclpiaaDoor
set_option linter.unusedSimpArgs false
set_option linter.unusedVariables false
open Go.RowKit
set_option maxHeartbeats 400000 in
theorem era_any (t c b : Int) (w : World) (hs : Szs w) :
 Calls Tryd.prog 41 #[.agg #[.int .i64 t, .int .i64 c, .int .i64 b]] w fun e w' => e = .returned (.int .i64 (atN t c b 0 0 1)) ∧ ∃ r, w' = ext w r := by
 have HS := hid hs
 clear hs
 go_enter Tryd.func41, Tryd.ntmps41
 go_wp2_with fail
 go_call (at_any t c b 0 (by omega) 0 1 (fun _ _ _ => by omega) _ (HS.out.alloc _)) as e w' ⟨rfl, r, rfl⟩
 go_wp2_with fail
 go_ret
 exact ⟨rfl, by (show Ext _ _; repeat first | (with_reducible first | (refine xH ?_; assumption) | exact xR _ | refine xX ?_ _ | refine xA ?_ _) | refine xD ?_ | refine xN ?_ _ | exact xR _)⟩
set_option maxHeartbeats 400000 in
theorem announce_any (t c b x : Int) (w : World) (hs : Szs w) :
 Calls Tryd.prog 23 #[.agg #[.int .i64 t, .int .i64 c, .int .i64 b], .int .i64 x] w fun e w' => e = .returned (.int .i64 (atN t c b 1 (wrap64 (x - 1)) 0)) ∧ ∃ r, w' = ext w r := by
 have HS := hid hs
 clear hs
 go_enter Tryd.func23, Tryd.ntmps23
 go_wp2_with fail
 go_call (at_any t c b 1 (by omega) (wrap64 (x - 1)) 0 (fun _ _ _ => by omega) _ (HS.out.alloc _)) as e w' ⟨rfl, r, rfl⟩
 go_wp2_with fail
 go_ret
 exact ⟨rfl, by (show Ext _ _; repeat first | (with_reducible first | (refine xH ?_; assumption) | exact xR _ | refine xX ?_ _ | refine xA ?_ _) | refine xD ?_ | refine xN ?_ _ | exact xR _)⟩
set_option maxHeartbeats 400000 in
theorem hazard_any (t c b x : Int) (w : World) (hs : Szs w) :
 Calls Tryd.prog 24 #[.agg #[.int .i64 t, .int .i64 c, .int .i64 b], .int .i64 x] w fun e w' => e = .returned (.int .i64 (atN t c b 1 (wrap64 (x - 1)) 1)) ∧ ∃ r, w' = ext w r := by
 have HS := hid hs
 clear hs
 go_enter Tryd.func24, Tryd.ntmps24
 go_wp2_with fail
 go_call (at_any t c b 1 (by omega) (wrap64 (x - 1)) 1 (fun _ _ _ => by omega) _ (HS.out.alloc _)) as e w' ⟨rfl, r, rfl⟩
 go_wp2_with fail
 go_ret
 exact ⟨rfl, by (show Ext _ _; repeat first | (with_reducible first | (refine xH ?_; assumption) | exact xR _ | refine xX ?_ _ | refine xA ?_ _) | refine xD ?_ | refine xN ?_ _ | exact xR _)⟩
set_option maxHeartbeats 400000 in
theorem slot_any (t c b x : Int) (w : World) (hs : Szs w) :
 Calls Tryd.prog 17 #[.agg #[.int .i64 t, .int .i64 c, .int .i64 b], .int .i64 x] w fun e w' => e = .returned (.int .i64 (atN t c b 4 (wrap64 (x - 1)) 0)) ∧ ∃ r, w' = ext w r := by
 have HS := hid hs
 clear hs
 go_enter Tryd.func17, Tryd.ntmps17
 go_wp2_with fail
 go_call (at_any t c b 4 (by omega) (wrap64 (x - 1)) 0 (fun _ _ _ => by omega) _ (HS.out.alloc _)) as e w' ⟨rfl, r, rfl⟩
 go_wp2_with fail
 go_ret
 exact ⟨rfl, by (show Ext _ _; repeat first | (with_reducible first | (refine xH ?_; assumption) | exact xR _ | refine xX ?_ _ | refine xA ?_ _) | refine xD ?_ | refine xN ?_ _ | exact xR _)⟩
set_option maxHeartbeats 400000 in
theorem cell_any (t c b x : Int) (w : World) (hs : Szs w) :
 Calls Tryd.prog 16 #[.agg #[.int .i64 t, .int .i64 c, .int .i64 b], .int .i64 x] w fun e w' => e = .returned (.int .i64 (atN t c b 3 x 0)) ∧ ∃ r, w' = ext w r := by
 have HS := hid hs
 clear hs
 go_enter Tryd.func16, Tryd.ntmps16
 go_wp2_with fail
 go_call (at_any t c b 3 (by omega) x 0 (fun _ _ _ => by omega) _ (HS.out.alloc _)) as e w' ⟨rfl, r, rfl⟩
 go_wp2_with fail
 go_ret
 exact ⟨rfl, by (show Ext _ _; repeat first | (with_reducible first | (refine xH ?_; assumption) | exact xR _ | refine xX ?_ _ | refine xA ?_ _) | refine xD ?_ | refine xN ?_ _ | exact xR _)⟩
set_option maxHeartbeats 400000 in
theorem block_any (t c b x : Int) (w : World) (hs : Szs w) :
 Calls Tryd.prog 21 #[.agg #[.int .i64 t, .int .i64 c, .int .i64 b], .int .i64 x] w fun e w' => e = .returned (.int .i64 (atN t c b 6 x 0)) ∧ ∃ r, w' = ext w r := by
 have HS := hid hs
 clear hs
 go_enter Tryd.func21, Tryd.ntmps21
 go_wp2_with fail
 go_call (at_any t c b 6 (by omega) x 0 (fun _ _ _ => by omega) _ (HS.out.alloc _)) as e w' ⟨rfl, r, rfl⟩
 go_wp2_with fail
 go_ret
 exact ⟨rfl, by (show Ext _ _; repeat first | (with_reducible first | (refine xH ?_; assumption) | exact xR _ | refine xX ?_ _ | refine xA ?_ _) | refine xD ?_ | refine xN ?_ _ | exact xR _)⟩
def placeN (t c b who : Int) : Int × Int :=
 let at_ := if 9 ≤ who then atN t c b 6 (who - 9) 0 else atN t c b 4 (wrap64 (who - 1)) 0
 if at_ < 0 then (-1, 0) else (at_, if 9 ≤ who then 10 else 32)
set_option maxHeartbeats 400000 in
theorem place_any (t c b who : Int) (hw1 : -9223372036854775808 ≤ who) (hw2 : who ≤ 9223372036854775807) (w : World) (hs : Szs w) :
 Calls Tryd.prog 57 #[.agg #[.int .i64 t, .int .i64 c, .int .i64 b], .int .i64 who] w fun e w' => e = .returned (.tuple #[.int .i64 (placeN t c b who).1, .int .i64 (placeN t c b who).2]) ∧ ∃ r, w' = ext w r := by
 have HS := hid hs
 clear hs
 by_cases h9 : 9 ≤ who
 ·by_cases hn : atN t c b 6 (who - 9) 0 < 0
  ·have HR := hid (show placeN t c b who = (-1, 0) by simp [placeN, h9, hn])
   go_enter Tryd.func57, Tryd.ntmps57
   go_wp2_with fail
   go_call (slot_any t c b who _ (HS.out.alloc _)) as e w' ⟨rfl, r, rfl⟩
   go_wp2_with fail
   go_call (block_any t c b (who - 9) _ ((HS.out.alloc _).ext _)) as e w' ⟨rfl, r2, rfl⟩
   go_wp2_with fail
   go_ret2
   exact ⟨by rw [HR.out]; rfl, by (show Ext _ _; repeat first | (with_reducible first | (refine xH ?_; assumption) | exact xR _ | refine xX ?_ _ | refine xA ?_ _) | refine xD ?_ | refine xN ?_ _ | exact xR _)⟩
  ·have HR := hid (show placeN t c b who = (atN t c b 6 (who - 9) 0, 10) by simp [placeN, h9, hn])
   go_enter Tryd.func57, Tryd.ntmps57
   go_wp2_with fail
   go_call (slot_any t c b who _ (HS.out.alloc _)) as e w' ⟨rfl, r, rfl⟩
   go_wp2_with fail
   go_call (block_any t c b (who - 9) _ ((HS.out.alloc _).ext _)) as e w' ⟨rfl, r2, rfl⟩
   go_wp2_with fail
   go_ret2
   exact ⟨by rw [HR.out]; rfl, by (show Ext _ _; repeat first | (with_reducible first | (refine xH ?_; assumption) | exact xR _ | refine xX ?_ _ | refine xA ?_ _) | refine xD ?_ | refine xN ?_ _ | exact xR _)⟩
 ·by_cases hn : atN t c b 4 (wrap64 (who - 1)) 0 < 0
  ·have HR := hid (show placeN t c b who = (-1, 0) by simp [placeN, h9, hn])
   go_enter Tryd.func57, Tryd.ntmps57
   go_wp2_with fail
   go_call (slot_any t c b who _ (HS.out.alloc _)) as e w' ⟨rfl, r, rfl⟩
   go_wp2_with fail
   go_ret2
   exact ⟨by rw [HR.out]; rfl, by (show Ext _ _; repeat first | (with_reducible first | (refine xH ?_; assumption) | exact xR _ | refine xX ?_ _ | refine xA ?_ _) | refine xD ?_ | refine xN ?_ _ | exact xR _)⟩
  ·have HR := hid (show placeN t c b who = (atN t c b 4 (wrap64 (who - 1)) 0, 32) by simp [placeN, h9, hn])
   go_enter Tryd.func57, Tryd.ntmps57
   go_wp2_with fail
   go_call (slot_any t c b who _ (HS.out.alloc _)) as e w' ⟨rfl, r, rfl⟩
   go_wp2_with fail
   go_ret2
   exact ⟨by rw [HR.out]; rfl, by (show Ext _ _; repeat first | (with_reducible first | (refine xH ?_; assumption) | exact xR _ | refine xX ?_ _ | refine xA ?_ _) | refine xD ?_ | refine xN ?_ _ | exact xR _)⟩
def bitsN (t c b i : Int) : Int × Int :=
 if rightN t c b = true ∧ 0 ≤ i ∧ i < b then (fromN t c b 5 + i / 32, 2 ^ (i % 32).toNat) else (-1, 0)
def mayN (t c b n : Int) : Bool :=
 rightN t c b && (decide (fromN t c b 3 ≤ n ∧ n < fromN t c b 3 + c) || decide (fromN t c b 2 ≤ n ∧ n < fromN t c b 3 ∧ n % 8 < 3))
theorem from_mono {t c b : Int} (hk : Lok t c b) (k : Nat) : fromN t c b k ≤ fromN t c b (k + 1) := by
 have := long_bd hk k
 simp only [fromN]; omega
set_option maxHeartbeats 400000 in
theorem may_any (t c b n : Int) (hn1 : -9223372036854775808 ≤ n) (hn2 : n ≤ 9223372036854775807) (w : World) (hs : Szs w) :
 Calls Tryd.prog 22 #[.agg #[.int .i64 t, .int .i64 c, .int .i64 b], .int .i64 n] w fun e w' => e = .returned (.bool (mayN t c b n)) ∧ ∃ r, w' = ext w r := by
 have HS := hid hs
 clear hs
 cases hr : rightN t c b
 ·have HR := hid (show mayN t c b n = false by simp [mayN, hr])
  have HC := hid hr
  clear hr
  go_enter Tryd.func22, Tryd.ntmps22
  go_wp2_with fail
  go_call (right_any t c b _ (HS.out.alloc _)) as e w' ⟨rfl, r, rfl⟩
  rw [HC.out]
  go_wp2_with fail
  go_ret
  exact ⟨ret_bool HR.out.symm, by (show Ext _ _; repeat first | (with_reducible first | (refine xH ?_; assumption) | exact xR _ | refine xX ?_ _ | refine xA ?_ _) | refine xD ?_ | refine xN ?_ _ | exact xR _)⟩
 ·have HC := hid hr
  have hk := (right_lok hr).1
  have HK := hid hk
  obtain ⟨hf1, hf2⟩ := from_bd hk 3
  obtain ⟨hg1, hg2⟩ := from_bd hk 2
  obtain ⟨_, _, hc1, hc2, _, _⟩ := hk
  have hmm : fromN t c b 2 ≤ fromN t c b 3 := from_mono HK.out 2
  by_cases h1 : fromN t c b 3 ≤ n
  ·by_cases h2 : n - fromN t c b 3 < c
   ·have HR := hid (show mayN t c b n = true by simp [mayN, hr, h1]; omega)
    clear hr
    go_enter Tryd.func22, Tryd.ntmps22
    go_wp2_with fail
    go_call (right_any t c b _ (HS.out.alloc _)) as e w' ⟨rfl, r, rfl⟩
    rw [HC.out]
    go_wp2_with fail
    go_call (from_any t c b 3 (by omega) _ HK.out ((HS.out.alloc _).ext _)) as e w' ⟨rfl, r2, rfl⟩
    go_wp2_with fail
    go_ret
    exact ⟨ret_bool HR.out.symm, by (show Ext _ _; repeat first | (with_reducible first | (refine xH ?_; assumption) | exact xR _ | refine xX ?_ _ | refine xA ?_ _) | refine xD ?_ | refine xN ?_ _ | exact xR _)⟩
   ·have h3 : fromN t c b 2 ≤ n := by omega
    have h4 : ¬ n < fromN t c b 3 := by omega
    have HR := hid (show mayN t c b n = false by simp [mayN]; intro _; exact ⟨fun _ => by omega, fun _ _ => by omega⟩)
    clear hr
    go_enter Tryd.func22, Tryd.ntmps22
    go_wp2_with fail
    go_call (right_any t c b _ (HS.out.alloc _)) as e w' ⟨rfl, r, rfl⟩
    rw [HC.out]
    go_wp2_with fail
    go_call (from_any t c b 3 (by omega) _ HK.out ((HS.out.alloc _).ext _)) as e w' ⟨rfl, r2, rfl⟩
    go_wp2_with fail
    go_call (from_any t c b 2 (by omega) _ HK.out (((HS.out.alloc _).ext _).ext _)) as e w' ⟨rfl, r3, rfl⟩
    go_wp2_with fail
    go_call (from_any t c b 3 (by omega) _ HK.out ((((HS.out.alloc _).ext _).ext _).ext _)) as e w' ⟨rfl, r4, rfl⟩
    go_wp2_with fail
    go_ret
    exact ⟨ret_bool HR.out.symm, by (show Ext _ _; repeat first | (with_reducible first | (refine xH ?_; assumption) | exact xR _ | refine xX ?_ _ | refine xA ?_ _) | refine xD ?_ | refine xN ?_ _ | exact xR _)⟩
  ·by_cases h5 : -9223372036854775808 ≤ n - fromN t c b 3
   ·by_cases h3 : fromN t c b 2 ≤ n
    ·by_cases h4 : n % 8 < 3
     ·have h0 : 0 ≤ n := by omega
      have HR := hid (show mayN t c b n = true by simp [mayN, hr]; omega)
      clear hr
      go_enter Tryd.func22, Tryd.ntmps22
      go_wp2_with fail
      go_call (right_any t c b _ (HS.out.alloc _)) as e w' ⟨rfl, r, rfl⟩
      rw [HC.out]
      go_wp2_with fail
      go_call (from_any t c b 3 (by omega) _ HK.out ((HS.out.alloc _).ext _)) as e w' ⟨rfl, r2, rfl⟩
      go_wp2_with fail
      go_call (from_any t c b 2 (by omega) _ HK.out (((HS.out.alloc _).ext _).ext _)) as e w' ⟨rfl, r3, rfl⟩
      go_wp2_with fail
      go_call (from_any t c b 3 (by omega) _ HK.out ((((HS.out.alloc _).ext _).ext _).ext _)) as e w' ⟨rfl, r4, rfl⟩
      go_wp2_with fail
      go_ret
      exact ⟨ret_bool HR.out.symm, by (show Ext _ _; repeat first | (with_reducible first | (refine xH ?_; assumption) | exact xR _ | refine xX ?_ _ | refine xA ?_ _) | refine xD ?_ | refine xN ?_ _ | exact xR _)⟩
     ·have h0 : 0 ≤ n := by omega
      have h9 : decide (n % 8 < 3) = false := decide_eq_false h4
      have HR := hid (show mayN t c b n = false by simp [mayN]; intro _; exact ⟨fun _ => by omega, fun _ _ => by omega⟩)
      clear hr
      go_enter Tryd.func22, Tryd.ntmps22
      go_wp2_with fail
      go_call (right_any t c b _ (HS.out.alloc _)) as e w' ⟨rfl, r, rfl⟩
      rw [HC.out]
      go_wp2_with fail
      go_call (from_any t c b 3 (by omega) _ HK.out ((HS.out.alloc _).ext _)) as e w' ⟨rfl, r2, rfl⟩
      go_wp2_with fail
      go_call (from_any t c b 2 (by omega) _ HK.out (((HS.out.alloc _).ext _).ext _)) as e w' ⟨rfl, r3, rfl⟩
      go_wp2_with fail
      go_call (from_any t c b 3 (by omega) _ HK.out ((((HS.out.alloc _).ext _).ext _).ext _)) as e w' ⟨rfl, r4, rfl⟩
      go_wp2_with fail
      go_ret
      exact ⟨ret_bool HR.out.symm, by (show Ext _ _; repeat first | (with_reducible first | (refine xH ?_; assumption) | exact xR _ | refine xX ?_ _ | refine xA ?_ _) | refine xD ?_ | refine xN ?_ _ | exact xR _)⟩
    ·skip
     have HR := hid (show mayN t c b n = false by simp [mayN]; intro _; exact ⟨fun _ => by omega, fun _ _ => by omega⟩)
     clear hr
     go_enter Tryd.func22, Tryd.ntmps22
     go_wp2_with fail
     go_call (right_any t c b _ (HS.out.alloc _)) as e w' ⟨rfl, r, rfl⟩
     rw [HC.out]
     go_wp2_with fail
     go_call (from_any t c b 3 (by omega) _ HK.out ((HS.out.alloc _).ext _)) as e w' ⟨rfl, r2, rfl⟩
     go_wp2_with fail
     go_call (from_any t c b 2 (by omega) _ HK.out (((HS.out.alloc _).ext _).ext _)) as e w' ⟨rfl, r3, rfl⟩
     go_wp2_with fail
     go_ret
     exact ⟨ret_bool HR.out.symm, by (show Ext _ _; repeat first | (with_reducible first | (refine xH ?_; assumption) | exact xR _ | refine xX ?_ _ | refine xA ?_ _) | refine xD ?_ | refine xN ?_ _ | exact xR _)⟩
   ·have h6 : wrap64 (n - fromN t c b 3) = n - fromN t c b 3 + 18446744073709551616 := by unfold wrap64; omega
    have h7 : 0 ≤ wrap64 (n - fromN t c b 3) := by omega
    have h8 : ¬ wrap64 (n - fromN t c b 3) < c := by omega
    have h3 : ¬ fromN t c b 2 ≤ n := by omega
    clear h6
    have HR := hid (show mayN t c b n = false by simp [mayN]; intro _; exact ⟨fun _ => by omega, fun _ _ => by omega⟩)
    clear hr
    go_enter Tryd.func22, Tryd.ntmps22
    go_wp2_with fail
    go_call (right_any t c b _ (HS.out.alloc _)) as e w' ⟨rfl, r, rfl⟩
    rw [HC.out]
    go_wp2_with fail
    go_call (from_any t c b 3 (by omega) _ HK.out ((HS.out.alloc _).ext _)) as e w' ⟨rfl, r2, rfl⟩
    go_wp2_with fail
    go_call (from_any t c b 2 (by omega) _ HK.out (((HS.out.alloc _).ext _).ext _)) as e w' ⟨rfl, r3, rfl⟩
    go_wp2_with fail
    go_ret
    exact ⟨ret_bool HR.out.symm, by (show Ext _ _; repeat first | (with_reducible first | (refine xH ?_; assumption) | exact xR _ | refine xX ?_ _ | refine xA ?_ _) | refine xD ?_ | refine xN ?_ _ | exact xR _)⟩
end Go.Proofs.YtdpbcfjfnclpiaaDoor
