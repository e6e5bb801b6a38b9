/- Walks of package layout's exported functions: locations, Place, Bits, May. -/
import Derived.Test.YtfijnpfhffhffaaDoorLayD
namespace Go.Proofs.YtfijnpfhffhffaaDoor
set_option linter.unusedSimpArgs false
set_option linter.unusedVariables false
open Go.RowKit

set_option maxHeartbeats 400000 in
theorem era_any (t c b : Int) (w : World) (hs : Szs w) :
    Calls Tryd.prog 48 #[.agg #[.int .i64 t, .int .i64 c, .int .i64 b]] w fun e w' => e = .returned (.int .i64 (atN t c b 0 0 1)) ∧ ∃ r, w' = ext w r := by
  have HS := hid hs
  clear hs
  go_enter Tryd.func48, Tryd.ntmps48
  go_wp2_with fail
  go_call (at_any t c b 0 (by omega) 0 1 (fun _ _ _ => by omega) _ (HS.out.alloc _)) as e w' ⟨rfl, r, rfl⟩
  go_wp2_with fail
  go_ret
  exact ⟨rfl, by (show Ext _ _; repeat (first | with_reducible (refine Hid.out ?_; assumption) | with_reducible exact Ext.refl _ | with_reducible refine Ext.ext ?_ _ | with_reducible refine Ext.alloc ?_ _ | refine Ext.drew ?_ | refine Ext.drewN ?_ _ | exact Ext.refl _))⟩

set_option maxHeartbeats 400000 in
theorem announce_any (t c b x : Int) (w : World) (hs : Szs w) :
    Calls Tryd.prog 28 #[.agg #[.int .i64 t, .int .i64 c, .int .i64 b], .int .i64 x] w fun e w' => e = .returned (.int .i64 (atN t c b 1 (wrap64 (x - 1)) 0)) ∧ ∃ r, w' = ext w r := by
  have HS := hid hs
  clear hs
  go_enter Tryd.func28, Tryd.ntmps28
  go_wp2_with fail
  go_call (at_any t c b 1 (by omega) (wrap64 (x - 1)) 0 (fun _ _ _ => by omega) _ (HS.out.alloc _)) as e w' ⟨rfl, r, rfl⟩
  go_wp2_with fail
  go_ret
  exact ⟨rfl, by (show Ext _ _; repeat (first | with_reducible (refine Hid.out ?_; assumption) | with_reducible exact Ext.refl _ | with_reducible refine Ext.ext ?_ _ | with_reducible refine Ext.alloc ?_ _ | refine Ext.drew ?_ | refine Ext.drewN ?_ _ | exact Ext.refl _))⟩

set_option maxHeartbeats 400000 in
theorem hazard_any (t c b x : Int) (w : World) (hs : Szs w) :
    Calls Tryd.prog 29 #[.agg #[.int .i64 t, .int .i64 c, .int .i64 b], .int .i64 x] w fun e w' => e = .returned (.int .i64 (atN t c b 1 (wrap64 (x - 1)) 1)) ∧ ∃ r, w' = ext w r := by
  have HS := hid hs
  clear hs
  go_enter Tryd.func29, Tryd.ntmps29
  go_wp2_with fail
  go_call (at_any t c b 1 (by omega) (wrap64 (x - 1)) 1 (fun _ _ _ => by omega) _ (HS.out.alloc _)) as e w' ⟨rfl, r, rfl⟩
  go_wp2_with fail
  go_ret
  exact ⟨rfl, by (show Ext _ _; repeat (first | with_reducible (refine Hid.out ?_; assumption) | with_reducible exact Ext.refl _ | with_reducible refine Ext.ext ?_ _ | with_reducible refine Ext.alloc ?_ _ | refine Ext.drew ?_ | refine Ext.drewN ?_ _ | exact Ext.refl _))⟩

set_option maxHeartbeats 400000 in
theorem slot_any (t c b x : Int) (w : World) (hs : Szs w) :
    Calls Tryd.prog 17 #[.agg #[.int .i64 t, .int .i64 c, .int .i64 b], .int .i64 x] w fun e w' => e = .returned (.int .i64 (atN t c b 4 (wrap64 (x - 1)) 0)) ∧ ∃ r, w' = ext w r := by
  have HS := hid hs
  clear hs
  go_enter Tryd.func17, Tryd.ntmps17
  go_wp2_with fail
  go_call (at_any t c b 4 (by omega) (wrap64 (x - 1)) 0 (fun _ _ _ => by omega) _ (HS.out.alloc _)) as e w' ⟨rfl, r, rfl⟩
  go_wp2_with fail
  go_ret
  exact ⟨rfl, by (show Ext _ _; repeat (first | with_reducible (refine Hid.out ?_; assumption) | with_reducible exact Ext.refl _ | with_reducible refine Ext.ext ?_ _ | with_reducible refine Ext.alloc ?_ _ | refine Ext.drew ?_ | refine Ext.drewN ?_ _ | exact Ext.refl _))⟩

set_option maxHeartbeats 400000 in
theorem cell_any (t c b x : Int) (w : World) (hs : Szs w) :
    Calls Tryd.prog 24 #[.agg #[.int .i64 t, .int .i64 c, .int .i64 b], .int .i64 x] w fun e w' => e = .returned (.int .i64 (atN t c b 3 x 0)) ∧ ∃ r, w' = ext w r := by
  have HS := hid hs
  clear hs
  go_enter Tryd.func24, Tryd.ntmps24
  go_wp2_with fail
  go_call (at_any t c b 3 (by omega) x 0 (fun _ _ _ => by omega) _ (HS.out.alloc _)) as e w' ⟨rfl, r, rfl⟩
  go_wp2_with fail
  go_ret
  exact ⟨rfl, by (show Ext _ _; repeat (first | with_reducible (refine Hid.out ?_; assumption) | with_reducible exact Ext.refl _ | with_reducible refine Ext.ext ?_ _ | with_reducible refine Ext.alloc ?_ _ | refine Ext.drew ?_ | refine Ext.drewN ?_ _ | exact Ext.refl _))⟩

set_option maxHeartbeats 400000 in
theorem block_any (t c b x : Int) (w : World) (hs : Szs w) :
    Calls Tryd.prog 30 #[.agg #[.int .i64 t, .int .i64 c, .int .i64 b], .int .i64 x] w fun e w' => e = .returned (.int .i64 (atN t c b 6 x 0)) ∧ ∃ r, w' = ext w r := by
  have HS := hid hs
  clear hs
  go_enter Tryd.func30, Tryd.ntmps30
  go_wp2_with fail
  go_call (at_any t c b 6 (by omega) x 0 (fun _ _ _ => by omega) _ (HS.out.alloc _)) as e w' ⟨rfl, r, rfl⟩
  go_wp2_with fail
  go_ret
  exact ⟨rfl, by (show Ext _ _; repeat (first | with_reducible (refine Hid.out ?_; assumption) | with_reducible exact Ext.refl _ | with_reducible refine Ext.ext ?_ _ | with_reducible refine Ext.alloc ?_ _ | refine Ext.drew ?_ | refine Ext.drewN ?_ _ | exact Ext.refl _))⟩


/-- Plain: the location and the number of entries. -/
def placeN (t c b who : Int) : Int × Int :=
  let at_ := if 9 ≤ who then atN t c b 6 (who - 9) 0 else atN t c b 4 (wrap64 (who - 1)) 0
  if at_ < 0 then (-1, 0) else (at_, if 9 ≤ who then 10 else 32)

set_option maxHeartbeats 400000 in
theorem place_any (t c b who : Int) (hw1 : -9223372036854775808 ≤ who) (hw2 : who ≤ 9223372036854775807) (w : World) (hs : Szs w) :
    Calls Tryd.prog 59 #[.agg #[.int .i64 t, .int .i64 c, .int .i64 b], .int .i64 who] w fun e w' => e = .returned (.tuple #[.int .i64 (placeN t c b who).1, .int .i64 (placeN t c b who).2]) ∧ ∃ r, w' = ext w r := by
  have HS := hid hs
  clear hs
  by_cases h9 : 9 ≤ who
  · by_cases hn : atN t c b 6 (who - 9) 0 < 0
    · have HR := hid (show placeN t c b who = (-1, 0) by simp [placeN, h9, hn])
      go_enter Tryd.func59, Tryd.ntmps59
      go_wp2_with fail
      go_call (slot_any t c b who _ (HS.out.alloc _)) as e w' ⟨rfl, r, rfl⟩
      go_wp2_with fail
      go_call (block_any t c b (who - 9) _ ((HS.out.alloc _).ext _)) as e w' ⟨rfl, r2, rfl⟩
      go_wp2_with fail
      go_ret2
      exact ⟨by rw [HR.out]; rfl, by (show Ext _ _; repeat (first | with_reducible (refine Hid.out ?_; assumption) | with_reducible exact Ext.refl _ | with_reducible refine Ext.ext ?_ _ | with_reducible refine Ext.alloc ?_ _ | refine Ext.drew ?_ | refine Ext.drewN ?_ _ | exact Ext.refl _))⟩
    · have HR := hid (show placeN t c b who = (atN t c b 6 (who - 9) 0, 10) by simp [placeN, h9, hn])
      go_enter Tryd.func59, Tryd.ntmps59
      go_wp2_with fail
      go_call (slot_any t c b who _ (HS.out.alloc _)) as e w' ⟨rfl, r, rfl⟩
      go_wp2_with fail
      go_call (block_any t c b (who - 9) _ ((HS.out.alloc _).ext _)) as e w' ⟨rfl, r2, rfl⟩
      go_wp2_with fail
      go_ret2
      exact ⟨by rw [HR.out]; rfl, by (show Ext _ _; repeat (first | with_reducible (refine Hid.out ?_; assumption) | with_reducible exact Ext.refl _ | with_reducible refine Ext.ext ?_ _ | with_reducible refine Ext.alloc ?_ _ | refine Ext.drew ?_ | refine Ext.drewN ?_ _ | exact Ext.refl _))⟩
  · by_cases hn : atN t c b 4 (wrap64 (who - 1)) 0 < 0
    · have HR := hid (show placeN t c b who = (-1, 0) by simp [placeN, h9, hn])
      go_enter Tryd.func59, Tryd.ntmps59
      go_wp2_with fail
      go_call (slot_any t c b who _ (HS.out.alloc _)) as e w' ⟨rfl, r, rfl⟩
      go_wp2_with fail
      go_ret2
      exact ⟨by rw [HR.out]; rfl, by (show Ext _ _; repeat (first | with_reducible (refine Hid.out ?_; assumption) | with_reducible exact Ext.refl _ | with_reducible refine Ext.ext ?_ _ | with_reducible refine Ext.alloc ?_ _ | refine Ext.drew ?_ | refine Ext.drewN ?_ _ | exact Ext.refl _))⟩
    · have HR := hid (show placeN t c b who = (atN t c b 4 (wrap64 (who - 1)) 0, 32) by simp [placeN, h9, hn])
      go_enter Tryd.func59, Tryd.ntmps59
      go_wp2_with fail
      go_call (slot_any t c b who _ (HS.out.alloc _)) as e w' ⟨rfl, r, rfl⟩
      go_wp2_with fail
      go_ret2
      exact ⟨by rw [HR.out]; rfl, by (show Ext _ _; repeat (first | with_reducible (refine Hid.out ?_; assumption) | with_reducible exact Ext.refl _ | with_reducible refine Ext.ext ?_ _ | with_reducible refine Ext.alloc ?_ _ | refine Ext.drew ?_ | refine Ext.drewN ?_ _ | exact Ext.refl _))⟩

theorem wrap_pow (k : Nat) (h : k < 32) : wrap64 (2 ^ k) = 2 ^ k := by
  have h1 : (2 : Int) ^ k ≤ 2 ^ 31 := by
    have : (2 : Nat) ^ k ≤ 2 ^ 31 := Nat.pow_le_pow_right (by decide) (by omega)
    exact_mod_cast this
  have h2 : (0 : Int) ≤ 2 ^ k := Int.pow_nonneg (by decide)
  exact IntWalk.wrap64_in _ ⟨by omega, by omega⟩

/-- Plain: the word and the bit of a block. -/
def bitsN (t c b i : Int) : Int × Int :=
  if rightN t c b = true ∧ 0 ≤ i ∧ i < b then (fromN t c b 5 + i / 32, 2 ^ (i % 32).toNat) else (-1, 0)

/-- Plain: may a swap reach the location? -/
def mayN (t c b n : Int) : Bool :=
  rightN t c b && (decide (fromN t c b 3 ≤ n ∧ n < fromN t c b 3 + c) || decide (fromN t c b 2 ≤ n ∧ n < fromN t c b 3 ∧ n % 8 < 3))

theorem from_mono {t c b : Int} (hk : Lok t c b) (k : Nat) : fromN t c b k ≤ fromN t c b (k + 1) := by
  have := long_bd hk k
  simp only [fromN]; omega

set_option maxHeartbeats 400000 in
theorem may_any (t c b n : Int) (hn1 : -9223372036854775808 ≤ n) (hn2 : n ≤ 9223372036854775807) (w : World) (hs : Szs w) :
    Calls Tryd.prog 15 #[.agg #[.int .i64 t, .int .i64 c, .int .i64 b], .int .i64 n] w fun e w' => e = .returned (.bool (mayN t c b n)) ∧ ∃ r, w' = ext w r := by
  have HS := hid hs
  clear hs
  cases hr : rightN t c b
  · have HR := hid (show mayN t c b n = false by simp [mayN, hr])
    have HC := hid hr
    clear hr
    go_enter Tryd.func15, Tryd.ntmps15
    go_wp2_with fail
    go_call (right_any t c b _ (HS.out.alloc _)) as e w' ⟨rfl, r, rfl⟩
    rw [HC.out]
    go_wp2_with fail
    go_ret
    exact ⟨ret_bool HR.out.symm, by (show Ext _ _; repeat (first | with_reducible (refine Hid.out ?_; assumption) | with_reducible exact Ext.refl _ | with_reducible refine Ext.ext ?_ _ | with_reducible refine Ext.alloc ?_ _ | refine Ext.drew ?_ | refine Ext.drewN ?_ _ | exact Ext.refl _))⟩
  · have HC := hid hr
    have hk := (right_lok hr).1
    have HK := hid hk
    obtain ⟨hf1, hf2⟩ := from_bd hk 3
    obtain ⟨hg1, hg2⟩ := from_bd hk 2
    obtain ⟨_, _, hc1, hc2, _, _⟩ := hk
    have hmm : fromN t c b 2 ≤ fromN t c b 3 := from_mono HK.out 2
    by_cases h1 : fromN t c b 3 ≤ n
    · by_cases h2 : n - fromN t c b 3 < c
      · have HR := hid (show mayN t c b n = true by simp [mayN, hr, h1]; omega)
        clear hr
        go_enter Tryd.func15, Tryd.ntmps15
        go_wp2_with fail
        go_call (right_any t c b _ (HS.out.alloc _)) as e w' ⟨rfl, r, rfl⟩
        rw [HC.out]
        go_wp2_with fail
        go_call (from_any t c b 3 (by omega) _ HK.out ((HS.out.alloc _).ext _)) as e w' ⟨rfl, r2, rfl⟩
        go_wp2_with fail
        go_ret
        exact ⟨ret_bool HR.out.symm, by (show Ext _ _; repeat (first | with_reducible (refine Hid.out ?_; assumption) | with_reducible exact Ext.refl _ | with_reducible refine Ext.ext ?_ _ | with_reducible refine Ext.alloc ?_ _ | refine Ext.drew ?_ | refine Ext.drewN ?_ _ | exact Ext.refl _))⟩
      · have h3 : fromN t c b 2 ≤ n := by omega
        have h4 : ¬ n < fromN t c b 3 := by omega
        have HR := hid (show mayN t c b n = false by simp [mayN]; intro _; exact ⟨fun _ => by omega, fun _ _ => by omega⟩)
        clear hr
        go_enter Tryd.func15, Tryd.ntmps15
        go_wp2_with fail
        go_call (right_any t c b _ (HS.out.alloc _)) as e w' ⟨rfl, r, rfl⟩
        rw [HC.out]
        go_wp2_with fail
        go_call (from_any t c b 3 (by omega) _ HK.out ((HS.out.alloc _).ext _)) as e w' ⟨rfl, r2, rfl⟩
        go_wp2_with fail
        go_call (from_any t c b 2 (by omega) _ HK.out (((HS.out.alloc _).ext _).ext _)) as e w' ⟨rfl, r3, rfl⟩
        go_wp2_with fail
        go_call (from_any t c b 3 (by omega) _ HK.out ((((HS.out.alloc _).ext _).ext _).ext _)) as e w' ⟨rfl, r4, rfl⟩
        go_wp2_with fail
        go_ret
        exact ⟨ret_bool HR.out.symm, by (show Ext _ _; repeat (first | with_reducible (refine Hid.out ?_; assumption) | with_reducible exact Ext.refl _ | with_reducible refine Ext.ext ?_ _ | with_reducible refine Ext.alloc ?_ _ | refine Ext.drew ?_ | refine Ext.drewN ?_ _ | exact Ext.refl _))⟩
    · by_cases h5 : -9223372036854775808 ≤ n - fromN t c b 3
      · by_cases h3 : fromN t c b 2 ≤ n
        · by_cases h4 : n % 8 < 3
          · have h0 : 0 ≤ n := by omega
            have HR := hid (show mayN t c b n = true by simp [mayN, hr]; omega)
            clear hr
            go_enter Tryd.func15, Tryd.ntmps15
            go_wp2_with fail
            go_call (right_any t c b _ (HS.out.alloc _)) as e w' ⟨rfl, r, rfl⟩
            rw [HC.out]
            go_wp2_with fail
            go_call (from_any t c b 3 (by omega) _ HK.out ((HS.out.alloc _).ext _)) as e w' ⟨rfl, r2, rfl⟩
            go_wp2_with fail
            go_call (from_any t c b 2 (by omega) _ HK.out (((HS.out.alloc _).ext _).ext _)) as e w' ⟨rfl, r3, rfl⟩
            go_wp2_with fail
            go_call (from_any t c b 3 (by omega) _ HK.out ((((HS.out.alloc _).ext _).ext _).ext _)) as e w' ⟨rfl, r4, rfl⟩
            go_wp2_with fail
            go_ret
            exact ⟨ret_bool HR.out.symm, by (show Ext _ _; repeat (first | with_reducible (refine Hid.out ?_; assumption) | with_reducible exact Ext.refl _ | with_reducible refine Ext.ext ?_ _ | with_reducible refine Ext.alloc ?_ _ | refine Ext.drew ?_ | refine Ext.drewN ?_ _ | exact Ext.refl _))⟩
          · have h0 : 0 ≤ n := by omega
            have h9 : decide (n % 8 < 3) = false := decide_eq_false h4
            have HR := hid (show mayN t c b n = false by simp [mayN]; intro _; exact ⟨fun _ => by omega, fun _ _ => by omega⟩)
            clear hr
            go_enter Tryd.func15, Tryd.ntmps15
            go_wp2_with fail
            go_call (right_any t c b _ (HS.out.alloc _)) as e w' ⟨rfl, r, rfl⟩
            rw [HC.out]
            go_wp2_with fail
            go_call (from_any t c b 3 (by omega) _ HK.out ((HS.out.alloc _).ext _)) as e w' ⟨rfl, r2, rfl⟩
            go_wp2_with fail
            go_call (from_any t c b 2 (by omega) _ HK.out (((HS.out.alloc _).ext _).ext _)) as e w' ⟨rfl, r3, rfl⟩
            go_wp2_with fail
            go_call (from_any t c b 3 (by omega) _ HK.out ((((HS.out.alloc _).ext _).ext _).ext _)) as e w' ⟨rfl, r4, rfl⟩
            go_wp2_with fail
            go_ret
            exact ⟨ret_bool HR.out.symm, by (show Ext _ _; repeat (first | with_reducible (refine Hid.out ?_; assumption) | with_reducible exact Ext.refl _ | with_reducible refine Ext.ext ?_ _ | with_reducible refine Ext.alloc ?_ _ | refine Ext.drew ?_ | refine Ext.drewN ?_ _ | exact Ext.refl _))⟩
        · skip
          have HR := hid (show mayN t c b n = false by simp [mayN]; intro _; exact ⟨fun _ => by omega, fun _ _ => by omega⟩)
          clear hr
          go_enter Tryd.func15, Tryd.ntmps15
          go_wp2_with fail
          go_call (right_any t c b _ (HS.out.alloc _)) as e w' ⟨rfl, r, rfl⟩
          rw [HC.out]
          go_wp2_with fail
          go_call (from_any t c b 3 (by omega) _ HK.out ((HS.out.alloc _).ext _)) as e w' ⟨rfl, r2, rfl⟩
          go_wp2_with fail
          go_call (from_any t c b 2 (by omega) _ HK.out (((HS.out.alloc _).ext _).ext _)) as e w' ⟨rfl, r3, rfl⟩
          go_wp2_with fail
          go_ret
          exact ⟨ret_bool HR.out.symm, by (show Ext _ _; repeat (first | with_reducible (refine Hid.out ?_; assumption) | with_reducible exact Ext.refl _ | with_reducible refine Ext.ext ?_ _ | with_reducible refine Ext.alloc ?_ _ | refine Ext.drew ?_ | refine Ext.drewN ?_ _ | exact Ext.refl _))⟩
      · have h6 : wrap64 (n - fromN t c b 3) = n - fromN t c b 3 + 18446744073709551616 := by unfold wrap64; omega
        have h7 : 0 ≤ wrap64 (n - fromN t c b 3) := by omega
        have h8 : ¬ wrap64 (n - fromN t c b 3) < c := by omega
        have h3 : ¬ fromN t c b 2 ≤ n := by omega
        clear h6
        have HR := hid (show mayN t c b n = false by simp [mayN]; intro _; exact ⟨fun _ => by omega, fun _ _ => by omega⟩)
        clear hr
        go_enter Tryd.func15, Tryd.ntmps15
        go_wp2_with fail
        go_call (right_any t c b _ (HS.out.alloc _)) as e w' ⟨rfl, r, rfl⟩
        rw [HC.out]
        go_wp2_with fail
        go_call (from_any t c b 3 (by omega) _ HK.out ((HS.out.alloc _).ext _)) as e w' ⟨rfl, r2, rfl⟩
        go_wp2_with fail
        go_call (from_any t c b 2 (by omega) _ HK.out (((HS.out.alloc _).ext _).ext _)) as e w' ⟨rfl, r3, rfl⟩
        go_wp2_with fail
        go_ret
        exact ⟨ret_bool HR.out.symm, by (show Ext _ _; repeat (first | with_reducible (refine Hid.out ?_; assumption) | with_reducible exact Ext.refl _ | with_reducible refine Ext.ext ?_ _ | with_reducible refine Ext.alloc ?_ _ | refine Ext.drew ?_ | refine Ext.drewN ?_ _ | exact Ext.refl _))⟩

end Go.Proofs.YtfijnpfhffhffaaDoor
