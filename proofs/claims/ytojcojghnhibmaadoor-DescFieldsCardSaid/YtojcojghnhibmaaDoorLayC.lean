/- Walks of package layout's inner functions: from, Check, right, Size. -/
import Derived.Test.YtojcojghnhibmaaDoorLayB
namespace Go.Proofs.YtojcojghnhibmaaDoor
open Go.RowKit

/-- Plain: the first location of a part. -/
def fromN (t c b : Int) : Nat → Int
  | 0 => 0
  | k + 1 => fromN t c b k + longN t c b k

theorem long_bd {t c b : Int} (hk : Lok t c b) (p : Nat) : 0 ≤ longN t c b p ∧ longN t c b p ≤ 3007 := by
  have := many_bd hk p
  unfold longN upN
  split
  · split <;> omega
  · omega

theorem from_bd {t c b : Int} (hk : Lok t c b) (k : Nat) : 0 ≤ fromN t c b k ∧ fromN t c b k ≤ 3007 * k := by
  induction k with
  | zero => simp [fromN]
  | succ k ih => have := long_bd hk k; simp only [fromN]; omega

theorem Szs.of {w w' : World} (h : Szs w) (he : Ext w w') : Szs w' := fun i hi => Ext.cell he (h i hi)
theorem Szs.ext {w : World} (h : Szs w) (r : Xt) : Szs (ext w r) := fun i hi => Ext.cell ⟨r, rfl⟩ (h i hi)
theorem Szs.alloc {w : World} (h : Szs w) (o : Obj) : Szs (w.alloc o) := fun i hi => Ext.cell (Ext.of_alloc w o) (h i hi)
theorem Szs.drew {w : World} (h : Szs w) : Szs w.drew := h

set_option maxHeartbeats 400000 in
theorem from_any (t c b : Int) (k : Nat) (hk7 : k ≤ 7) (w : World) (hk : Lok t c b) (hs : Szs w) :
    Calls Tryd.prog 44 #[.agg #[.int .i64 t, .int .i64 c, .int .i64 b], .int .i64 k] w fun e w' => e = .returned (.int .i64 (fromN t c b k)) ∧ ∃ r, w' = ext w r := by
  go_enter Tryd.func44, Tryd.ntmps44
  go_wp2
  go_loopw [5, 8] (fun n i wr => ∃ j : Nat, j ≤ k ∧ i = .int .i64 j ∧ n = .int .i64 (fromN t c b j) ∧ Ext (w.alloc (.cells #[.int .i64 t, .int .i64 c, .int .i64 b] 30)) wr) (fun _ i _ => k - (intOf i).toNat)
  case atStart => exact ⟨0, by omega, rfl, rfl, Ext.refl _⟩
  case round =>
    obtain ⟨j, hj, rfl, rfl, r, rfl⟩ := hrel
    have hb := from_bd hk j
    have hl := long_bd hk j
    obtain ⟨hb1, hb2⟩ := hb
    obtain ⟨hl1, hl2⟩ := hl
    go_wp2_with (go_at_call 51; refine (long_any t c b j (by omega) _ hk ((hs.alloc _).ext _)).mono ?_; rintro e w' ⟨rfl, r', rfl⟩)
    · go_roundw
      case rel => exact ⟨j + 1, by omega, by go_num, by simp only [fromN], by (show Ext _ _; repeat (first | with_reducible (refine Hid.out ?_; assumption) | with_reducible exact Ext.refl _ | with_reducible refine Ext.ext ?_ _ | with_reducible refine Ext.alloc ?_ _ | refine Ext.drew ?_ | refine Ext.drewN ?_ _ | exact Ext.refl _))⟩
      case measure => simp [intOf]; omega
    · have : j = k := by omega
      subst this
      go_ret
      exact ⟨rfl, by (show Ext _ _; repeat (first | with_reducible (refine Hid.out ?_; assumption) | with_reducible exact Ext.refl _ | with_reducible refine Ext.ext ?_ _ | with_reducible refine Ext.alloc ?_ _ | refine Ext.drew ?_ | refine Ext.drewN ?_ _ | exact Ext.refl _))⟩

theorem between_yes (n a b : Int) (w : World) (h : a ≤ n ∧ n ≤ b) :
    Calls Tryd.prog 45 #[.int .i64 n, .int .i64 a, .int .i64 b] w fun e w' => e = .returned (.bool true) ∧ w = w' :=
  (between_any n a b w).mono fun e w' ⟨h1, h2⟩ => ⟨by rw [h1]; exact ret_bool (decide_eq_true h), h2⟩
theorem between_no (n a b : Int) (w : World) (h : ¬ (a ≤ n ∧ n ≤ b)) :
    Calls Tryd.prog 45 #[.int .i64 n, .int .i64 a, .int .i64 b] w fun e w' => e = .returned (.bool false) ∧ w = w' :=
  (between_any n a b w).mono fun e w' ⟨h1, h2⟩ => ⟨by rw [h1]; exact ret_bool (decide_eq_false h), h2⟩

/-- Plain: the error of a layout. -/
def checkN (t c b : Int) : Int :=
  if ¬ (1 ≤ t ∧ t ≤ 8) then 3 else if ¬ (1 ≤ c ∧ c ≤ 2048) then 3 else if ¬ (0 ≤ b ∧ b ≤ 64) then 3 else if 4096 < fromN t c b 7 then 19 else 0

set_option maxHeartbeats 400000 in
theorem check_any (t c b : Int) (w : World) (hs : Szs w) :
    Calls Tryd.prog 34 #[.agg #[.int .i64 t, .int .i64 c, .int .i64 b]] w fun e w' => e = .returned (.int .i64 (checkN t c b)) ∧ ∃ r, w' = ext w r := by
  have HS := hid hs
  clear hs
  by_cases ht : 1 ≤ t ∧ t ≤ 8
  · have HT := hid ht
    by_cases hc : 1 ≤ c ∧ c ≤ 2048
    · have HC := hid hc
      by_cases hb : 0 ≤ b ∧ b ≤ 64
      · have HB := hid hb
        have HK : Hid (Lok t c b) := hid ⟨ht.1, ht.2, hc.1, hc.2, hb.1, hb.2⟩
        by_cases hf : 4096 < fromN t c b 7
        · have HR := hid (show checkN t c b = 19 by simp [checkN, ht, hc, hb, hf])
          clear ht hc hb
          go_enter Tryd.func34, Tryd.ntmps34
          go_wp2_with fail
          go_call (between_yes t 1 8 _ HT.out) as e w' ⟨rfl, rfl⟩
          go_wp2_with fail
          go_call (between_yes c 1 2048 _ HC.out) as e w' ⟨rfl, rfl⟩
          go_wp2_with fail
          go_call (between_yes b 0 64 _ HB.out) as e w' ⟨rfl, rfl⟩
          go_wp2_with fail
          go_call (from_any t c b 7 (by omega) _ HK.out (HS.out.alloc _)) as e w' ⟨rfl, r, rfl⟩
          go_wp2_with fail
          go_ret
          exact ⟨ret_int HR.out.symm, by (show Ext _ _; repeat (first | with_reducible (refine Hid.out ?_; assumption) | with_reducible exact Ext.refl _ | with_reducible refine Ext.ext ?_ _ | with_reducible refine Ext.alloc ?_ _ | refine Ext.drew ?_ | refine Ext.drewN ?_ _ | exact Ext.refl _))⟩
        · have HR := hid (show checkN t c b = 0 by simp [checkN, ht, hc, hb, hf])
          clear ht hc hb
          go_enter Tryd.func34, Tryd.ntmps34
          go_wp2_with fail
          go_call (between_yes t 1 8 _ HT.out) as e w' ⟨rfl, rfl⟩
          go_wp2_with fail
          go_call (between_yes c 1 2048 _ HC.out) as e w' ⟨rfl, rfl⟩
          go_wp2_with fail
          go_call (between_yes b 0 64 _ HB.out) as e w' ⟨rfl, rfl⟩
          go_wp2_with fail
          go_call (from_any t c b 7 (by omega) _ HK.out (HS.out.alloc _)) as e w' ⟨rfl, r, rfl⟩
          go_wp2_with fail
          go_ret
          exact ⟨ret_int HR.out.symm, by (show Ext _ _; repeat (first | with_reducible (refine Hid.out ?_; assumption) | with_reducible exact Ext.refl _ | with_reducible refine Ext.ext ?_ _ | with_reducible refine Ext.alloc ?_ _ | refine Ext.drew ?_ | refine Ext.drewN ?_ _ | exact Ext.refl _))⟩
      · have HB := hid hb
        have HR := hid (show checkN t c b = 3 by simp [checkN, ht, hc, hb])
        clear ht hc hb
        go_enter Tryd.func34, Tryd.ntmps34
        go_wp2_with fail
        go_call (between_yes t 1 8 _ HT.out) as e w' ⟨rfl, rfl⟩
        go_wp2_with fail
        go_call (between_yes c 1 2048 _ HC.out) as e w' ⟨rfl, rfl⟩
        go_wp2_with fail
        go_call (between_no b 0 64 _ HB.out) as e w' ⟨rfl, rfl⟩
        go_wp2_with fail
        go_ret
        exact ⟨ret_int HR.out.symm, by (show Ext _ _; repeat (first | with_reducible (refine Hid.out ?_; assumption) | with_reducible exact Ext.refl _ | with_reducible refine Ext.ext ?_ _ | with_reducible refine Ext.alloc ?_ _ | refine Ext.drew ?_ | refine Ext.drewN ?_ _ | exact Ext.refl _))⟩
    · have HC := hid hc
      have HR := hid (show checkN t c b = 3 by simp [checkN, ht, hc])
      clear ht hc
      go_enter Tryd.func34, Tryd.ntmps34
      go_wp2_with fail
      go_call (between_yes t 1 8 _ HT.out) as e w' ⟨rfl, rfl⟩
      go_wp2_with fail
      go_call (between_no c 1 2048 _ HC.out) as e w' ⟨rfl, rfl⟩
      go_wp2_with fail
      go_ret
      exact ⟨ret_int HR.out.symm, by (show Ext _ _; repeat (first | with_reducible (refine Hid.out ?_; assumption) | with_reducible exact Ext.refl _ | with_reducible refine Ext.ext ?_ _ | with_reducible refine Ext.alloc ?_ _ | refine Ext.drew ?_ | refine Ext.drewN ?_ _ | exact Ext.refl _))⟩
  · have HT := hid ht
    have HR := hid (show checkN t c b = 3 by simp [checkN, ht])
    clear ht
    go_enter Tryd.func34, Tryd.ntmps34
    go_wp2_with fail
    go_call (between_no t 1 8 _ HT.out) as e w' ⟨rfl, rfl⟩
    go_wp2_with fail
    go_ret
    exact ⟨ret_int HR.out.symm, by (show Ext _ _; repeat (first | with_reducible (refine Hid.out ?_; assumption) | with_reducible exact Ext.refl _ | with_reducible refine Ext.ext ?_ _ | with_reducible refine Ext.alloc ?_ _ | refine Ext.drew ?_ | refine Ext.drewN ?_ _ | exact Ext.refl _))⟩

/-- Plain: is the layout valid? -/
def rightN (t c b : Int) : Bool := checkN t c b == 0

theorem right_lok {t c b : Int} (h : rightN t c b = true) : Lok t c b ∧ fromN t c b 7 ≤ 4096 := by
  simp only [rightN, checkN] at h
  split at h
  · simp at h
  · split at h
    · simp at h
    · split at h
      · simp at h
      · split at h
        · simp at h
        · exact ⟨⟨by omega, by omega, by omega, by omega, by omega, by omega⟩, by omega⟩

set_option maxHeartbeats 400000 in
theorem right_any (t c b : Int) (w : World) (hs : Szs w) :
    Calls Tryd.prog 37 #[.agg #[.int .i64 t, .int .i64 c, .int .i64 b]] w fun e w' => e = .returned (.bool (rightN t c b)) ∧ ∃ r, w' = ext w r := by
  have HS := hid hs
  clear hs
  go_enter Tryd.func37, Tryd.ntmps37
  go_wp2_with fail
  go_call (check_any t c b _ (HS.out.alloc _)) as e w' ⟨rfl, r, rfl⟩
  go_wp2_with fail
  go_ret
  exact ⟨rfl, by (show Ext _ _; repeat (first | with_reducible (refine Hid.out ?_; assumption) | with_reducible exact Ext.refl _ | with_reducible refine Ext.ext ?_ _ | with_reducible refine Ext.alloc ?_ _ | refine Ext.drew ?_ | refine Ext.drewN ?_ _ | exact Ext.refl _))⟩

/-- Plain: the size. -/
def sizeN (t c b : Int) : Int := if rightN t c b = true then fromN t c b 7 else 0

set_option maxHeartbeats 400000 in
theorem size_any (t c b : Int) (w : World) (hs : Szs w) :
    Calls Tryd.prog 33 #[.agg #[.int .i64 t, .int .i64 c, .int .i64 b]] w fun e w' => e = .returned (.int .i64 (sizeN t c b)) ∧ ∃ r, w' = ext w r := by
  have HS := hid hs
  clear hs
  cases hr : rightN t c b
  · have HR := hid (show sizeN t c b = 0 by simp [sizeN, hr])
    have HC := hid hr
    clear hr
    go_enter Tryd.func33, Tryd.ntmps33
    go_wp2_with fail
    go_call (right_any t c b _ (HS.out.alloc _)) as e w' ⟨rfl, r, rfl⟩
    rw [HC.out]
    go_wp2_with fail
    go_ret
    exact ⟨ret_int HR.out.symm, by (show Ext _ _; repeat (first | with_reducible (refine Hid.out ?_; assumption) | with_reducible exact Ext.refl _ | with_reducible refine Ext.ext ?_ _ | with_reducible refine Ext.alloc ?_ _ | refine Ext.drew ?_ | refine Ext.drewN ?_ _ | exact Ext.refl _))⟩
  · have HR := hid (show sizeN t c b = fromN t c b 7 by simp [sizeN, hr])
    have HC := hid hr
    clear hr
    go_enter Tryd.func33, Tryd.ntmps33
    go_wp2_with fail
    go_call (right_any t c b _ (HS.out.alloc _)) as e w' ⟨rfl, r, rfl⟩
    rw [HC.out]
    go_wp2_with fail
    go_call (from_any t c b 7 (by omega) _ (right_lok HC.out).1 ((HS.out.alloc _).ext _)) as e w' ⟨rfl, r2, rfl⟩
    go_wp2_with fail
    go_ret
    exact ⟨ret_int HR.out.symm, by (show Ext _ _; repeat (first | with_reducible (refine Hid.out ?_; assumption) | with_reducible exact Ext.refl _ | with_reducible refine Ext.ext ?_ _ | with_reducible refine Ext.alloc ?_ _ | refine Ext.drew ?_ | refine Ext.drewN ?_ _ | exact Ext.refl _))⟩

end Go.Proofs.YtojcojghnhibmaaDoor
