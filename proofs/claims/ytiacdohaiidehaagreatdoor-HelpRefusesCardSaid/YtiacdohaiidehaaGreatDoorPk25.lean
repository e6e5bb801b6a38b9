/- Walks of package layout's inner functions: between, many. They hold for every argument in range. Walks of package layout's inner functions: long, from. Walks of package layout's inner functions: from, Check, right, Size. Walks of package layout's location functions. Walks of package layout's exported functions: locations, Place, Bits, May. -/
import Derived.Test.YtiacdohaiidehaaGreatDoorRows
import Derived.Test.YtiacdohaiidehaaGreatDoorPk00
namespace Go.Proofs.YtiacdohaiidehaaGreatDoor
set_option linter.unusedSimpArgs false
set_option linter.unusedVariables false
open Go.RowKit
set_option maxHeartbeats 400000 in
theorem between_any (n a b : Int) (w : World) :
 Calls Tryz.prog 49 #[.int .i64 n, .int .i64 a, .int .i64 b] w fun e w' => e = .returned (.bool (decide (a ≤ n ∧ n ≤ b))) ∧ w = w' := by
 by_cases h1 : a ≤ n
 ·by_cases h2 : n ≤ b
  all_goals
   go_enter Tryz.func49, Tryz.ntmps49
   go_wp2
   go_ret
   exact ⟨by simp [h1, h2], rfl⟩
 ·go_enter Tryz.func49, Tryz.ntmps49
  go_wp2
  go_ret
  exact ⟨by simp; omega, rfl⟩
def manyN (t c b : Int) : Nat → Int
 | 0 => 1
 | 1 => t
 | 2 => t
 | 3 => c
 | 4 => t
 | 5 => b
 | 6 => b
 | _ => 0
set_option maxHeartbeats 400000 in
set_option maxRecDepth 100000 in
theorem many_any (t c b : Int) (p : Nat) (hp : p < 7) (w : World) :
 Calls Tryz.prog 85 #[.agg #[.int .i64 t, .int .i64 c, .int .i64 b], .int .i64 p] w fun e w' => e = .returned (.int .i64 (manyN t c b p)) ∧ ∃ r, w' = ext w r := by
 have hi : ∀ w, (Instr.index 183 (.agg #[.int .i64 1, .int .i64 t, .int .i64 t, .int .i64 c, .int .i64 t, .int .i64 b, .int .i64 b]) (.int .i64 p)).run Tryz.prog w = .ok (.int .i64 (manyN t c b p)) w := by
  match p, hp with
  | 0, _ => exact fun _ => by kernel_rfl
  | 1, _ => exact fun _ => by kernel_rfl
  | 2, _ => exact fun _ => by kernel_rfl
  | 3, _ => exact fun _ => by kernel_rfl
  | 4, _ => exact fun _ => by kernel_rfl
  | 5, _ => exact fun _ => by kernel_rfl
  | 6, _ => exact fun _ => by kernel_rfl
 go_enter Tryz.func85, Tryz.ntmps85
 go_wp2
 go_ret
 exact ⟨rfl, Ext.of_alloc _ _⟩
open Go.RowKit
def szN : Nat → Int
 | 0 => 8
 | 1 => 8
 | 2 => 8
 | 3 => 1
 | 4 => 104
 | 5 => 0
 | 6 => 32
 | _ => 0
def Szs (w : World) : Prop := ∀ i : Nat, i < 7 → w.cell? ⟨0, i, none⟩ = some (.int .i64 (szN i))
def Lok (t c b : Int) : Prop := 1 ≤ t ∧ t ≤ 8 ∧ 1 ≤ c ∧ c ≤ 2048 ∧ 0 ≤ b ∧ b ≤ 64
def upN (n : Int) : Int := (n + 7) / 8 * 8
def longN (t c b : Int) (p : Nat) : Int := if p = 5 then (if 0 < b then 8 else 0) else upN (manyN t c b p * szN p)
theorem many_bd {t c b : Int} (hk : Lok t c b) (p : Nat) : 0 ≤ manyN t c b p * szN p ∧ manyN t c b p * szN p ≤ 3000 := by
 obtain ⟨h1, h2, h3, h4, h5, h6⟩ := hk
 match p with
 | 0 => simp [manyN, szN]
 | 1 => simp only [manyN, szN]; omega
 | 2 => simp only [manyN, szN]; omega
 | 3 => simp only [manyN, szN]; omega
 | 4 => simp only [manyN, szN]; omega
 | 5 => simp only [manyN, szN]; omega
 | 6 => simp only [manyN, szN]; omega
 | _ + 7 => simp [manyN, szN]
theorem sz_zero {p : Nat} (hp : p < 7) (h : szN p = 0) : p = 5 := by
 match p, hp with
 | 0, _ => simp [szN] at h
 | 1, _ => simp [szN] at h
 | 2, _ => simp [szN] at h
 | 3, _ => simp [szN] at h
 | 4, _ => simp [szN] at h
 | 5, _ => rfl
 | 6, _ => simp [szN] at h
theorem long_else (t c b : Int) {p : Nat} (h : ¬ szN p = 0) : longN t c b p = (manyN t c b p * szN p + 7) / 8 * 8 := by
 have : p ≠ 5 := by rintro rfl; simp [szN] at h
 simp [longN, this, upN]
set_option maxHeartbeats 400000 in
theorem long_any (t c b : Int) (p : Nat) (hp : p < 7) (w : World) (hk : Lok t c b) (hs : Szs w) :
 Calls Tryz.prog 69 #[.agg #[.int .i64 t, .int .i64 c, .int .i64 b], .int .i64 p] w fun e w' => e = .returned (.int .i64 (longN t c b p)) ∧ ∃ r, w' = ext w r := by
 have hc := hs p hp
 have h0 := World.block_lt_of_cell? w _ hc
 simp only [] at h0
 have hp' : (p : Int) < 7 := by omega
 have hb := many_bd hk p
 obtain ⟨hb1, hb2⟩ := hb
 clear hs
 go_enter Tryz.func69, Tryz.ntmps69
 go_wp2
 refine region_ext (by kernel_rfl) (by kernel_rfl) ?_
 repeat (go_big_quiet_step ((go_at_call 85; exact quiet_ext (many_any t c b p hp _))))
 refine wpQuiet_nil ?_
 rintro _ ⟨r, rfl⟩
 go_wp2_with (go_at_call 85; refine (many_any t c b p hp _).mono ?_; rintro e w' ⟨rfl, r', rfl⟩)
 ·obtain rfl := sz_zero hp (by assumption)
  have h1 : 0 < manyN t c b 5 := by assumption
  go_ret
  exact ⟨ret_int (by simp only [manyN] at h1; simp [longN, h1]), by exact exP⟩
 ·obtain rfl := sz_zero hp (by assumption)
  have h1 : manyN t c b 5 ≤ 0 := by assumption
  go_ret
  exact ⟨ret_int (by simp only [manyN] at h1; simp [longN, show ¬ 0 < b by omega]), by exact exP⟩
 ·go_ret
  exact ⟨ret_int (by rw [long_else t c b (by assumption)]; omega), by exact exP⟩
open Go.RowKit
def fromN (t c b : Int) : Nat → Int
 | 0 => 0
 | k + 1 => fromN t c b k + longN t c b k
theorem long_bd {t c b : Int} (hk : Lok t c b) (p : Nat) : 0 ≤ longN t c b p ∧ longN t c b p ≤ 3007 := by
 have := many_bd hk p
 unfold longN upN
 split
 ·split <;> omega
 ·omega
theorem from_bd {t c b : Int} (hk : Lok t c b) (k : Nat) : 0 ≤ fromN t c b k ∧ fromN t c b k ≤ 3007 * k := by
 induction k with
 | zero => simp [fromN]
 | succ k ih => have := long_bd hk k; simp only [fromN]; omega
theorem Szs.of {w w' : World} (h : Szs w) (he : Ext w w') : Szs w' := fun i hi => Ext.cell he (h i hi)
theorem Szs.ext {w : World} (h : Szs w) (r : Xt) : Szs (ext w r) := fun i hi => Ext.cell ⟨r, rfl⟩ (h i hi)
theorem Szs.alloc {w : World} (h : Szs w) (o : Obj) : Szs (w.alloc o) := fun i hi => Ext.cell (Ext.of_alloc w o) (h i hi)
theorem Szs.drew {w : World} (h : Szs w) : Szs w.drew := h
set_option maxHeartbeats 400000 in
theorem from_any (t c b : Int) (k : Nat) (hk7 : k ≤ 7) (w : World) (hk : Lok t c b) (hs : Szs w) :
 Calls Tryz.prog 50 #[.agg #[.int .i64 t, .int .i64 c, .int .i64 b], .int .i64 k] w fun e w' => e = .returned (.int .i64 (fromN t c b k)) ∧ ∃ r, w' = ext w r := by
 go_enter Tryz.func50, Tryz.ntmps50
 go_wp2
 go_loopw [5, 8] (fun n i wr => ∃ j : Nat, j ≤ k ∧ i = .int .i64 j ∧ n = .int .i64 (fromN t c b j) ∧ Ext (w.alloc (.cells #[.int .i64 t, .int .i64 c, .int .i64 b] 30)) wr) (fun _ i _ => k - (intOf i).toNat)
 case atStart => exact ⟨0, by omega, rfl, rfl, Ext.refl _⟩
 case round =>
  obtain ⟨j, hj, rfl, rfl, r, rfl⟩ := hrel
  have hb := from_bd hk j
  have hl := long_bd hk j
  obtain ⟨hb1, hb2⟩ := hb
  obtain ⟨hl1, hl2⟩ := hl
  go_wp2_with (go_at_call 69; refine (long_any t c b j (by omega) _ hk ((hs.alloc _).ext _)).mono ?_; rintro e w' ⟨rfl, r', rfl⟩)
  ·go_roundw
   case rel => exact ⟨j + 1, by omega, by go_num, by simp only [fromN], by exact exP⟩
   case measure => simp [intOf]; omega
  ·have : j = k := by omega
   subst this
   go_ret
   exact ⟨rfl, by exact exP⟩
theorem between_yes (n a b : Int) (w : World) (h : a ≤ n ∧ n ≤ b) :
 Calls Tryz.prog 49 #[.int .i64 n, .int .i64 a, .int .i64 b] w fun e w' => e = .returned (.bool true) ∧ w = w' :=
 (between_any n a b w).mono fun e w' ⟨h1, h2⟩ => ⟨by rw [h1]; exact ret_bool (decide_eq_true h), h2⟩
theorem between_no (n a b : Int) (w : World) (h : ¬ (a ≤ n ∧ n ≤ b)) :
 Calls Tryz.prog 49 #[.int .i64 n, .int .i64 a, .int .i64 b] w fun e w' => e = .returned (.bool false) ∧ w = w' :=
 (between_any n a b w).mono fun e w' ⟨h1, h2⟩ => ⟨by rw [h1]; exact ret_bool (decide_eq_false h), h2⟩
def checkN (t c b : Int) : Int :=
 if ¬ (1 ≤ t ∧ t ≤ 8) then 3 else if ¬ (1 ≤ c ∧ c ≤ 2048) then 3 else if ¬ (0 ≤ b ∧ b ≤ 64) then 3 else if 4096 < fromN t c b 7 then 19 else 0
set_option maxHeartbeats 400000 in
theorem check_any (t c b : Int) (w : World) (hs : Szs w) :
 Calls Tryz.prog 17 #[.agg #[.int .i64 t, .int .i64 c, .int .i64 b]] w fun e w' => e = .returned (.int .i64 (checkN t c b)) ∧ ∃ r, w' = ext w r := by
 have HS := hid hs
 clear hs
 by_cases ht : 1 ≤ t ∧ t ≤ 8
 ·have HT := hid ht
  by_cases hc : 1 ≤ c ∧ c ≤ 2048
  ·have HC := hid hc
   by_cases hb : 0 ≤ b ∧ b ≤ 64
   ·have HB := hid hb
    have HK : Hid (Lok t c b) := hid ⟨ht.1, ht.2, hc.1, hc.2, hb.1, hb.2⟩
    by_cases hf : 4096 < fromN t c b 7
    ·have HR := hid (show checkN t c b = 19 by simp [checkN, ht, hc, hb, hf])
     clear ht hc hb
     go_enter Tryz.func17, Tryz.ntmps17
     go_wp2_with fail
     go_call (between_yes t 1 8 _ HT.out) as e w' ⟨rfl, rfl⟩
     go_wp2_with fail
     go_call (between_yes c 1 2048 _ HC.out) as e w' ⟨rfl, rfl⟩
     go_wp2_with fail
     go_call (between_yes b 0 64 _ HB.out) as e w' ⟨rfl, rfl⟩
     go_wp2_with fail
     go_call (from_any t c b 7 (by omega) _ HK.out (HS.out.alloc _)) as e w' ⟨rfl, r, rfl⟩
     go_wp2_with fail
     go_ret
     exact ⟨ret_int HR.out.symm, by exact exP⟩
    ·have HR := hid (show checkN t c b = 0 by simp [checkN, ht, hc, hb, hf])
     clear ht hc hb
     go_enter Tryz.func17, Tryz.ntmps17
     go_wp2_with fail
     go_call (between_yes t 1 8 _ HT.out) as e w' ⟨rfl, rfl⟩
     go_wp2_with fail
     go_call (between_yes c 1 2048 _ HC.out) as e w' ⟨rfl, rfl⟩
     go_wp2_with fail
     go_call (between_yes b 0 64 _ HB.out) as e w' ⟨rfl, rfl⟩
     go_wp2_with fail
     go_call (from_any t c b 7 (by omega) _ HK.out (HS.out.alloc _)) as e w' ⟨rfl, r, rfl⟩
     go_wp2_with fail
     go_ret
     exact ⟨ret_int HR.out.symm, by exact exP⟩
   ·have HB := hid hb
    have HR := hid (show checkN t c b = 3 by simp [checkN, ht, hc, hb])
    clear ht hc hb
    go_enter Tryz.func17, Tryz.ntmps17
    go_wp2_with fail
    go_call (between_yes t 1 8 _ HT.out) as e w' ⟨rfl, rfl⟩
    go_wp2_with fail
    go_call (between_yes c 1 2048 _ HC.out) as e w' ⟨rfl, rfl⟩
    go_wp2_with fail
    go_call (between_no b 0 64 _ HB.out) as e w' ⟨rfl, rfl⟩
    go_wp2_with fail
    go_ret
    exact ⟨ret_int HR.out.symm, by exact exP⟩
  ·have HC := hid hc
   have HR := hid (show checkN t c b = 3 by simp [checkN, ht, hc])
   clear ht hc
   go_enter Tryz.func17, Tryz.ntmps17
   go_wp2_with fail
   go_call (between_yes t 1 8 _ HT.out) as e w' ⟨rfl, rfl⟩
   go_wp2_with fail
   go_call (between_no c 1 2048 _ HC.out) as e w' ⟨rfl, rfl⟩
   go_wp2_with fail
   go_ret
   exact ⟨ret_int HR.out.symm, by exact exP⟩
 ·have HT := hid ht
  have HR := hid (show checkN t c b = 3 by simp [checkN, ht])
  clear ht
  go_enter Tryz.func17, Tryz.ntmps17
  go_wp2_with fail
  go_call (between_no t 1 8 _ HT.out) as e w' ⟨rfl, rfl⟩
  go_wp2_with fail
  go_ret
  exact ⟨ret_int HR.out.symm, by exact exP⟩
def rightN (t c b : Int) : Bool := checkN t c b == 0
theorem right_lok {t c b : Int} (h : rightN t c b = true) : Lok t c b ∧ fromN t c b 7 ≤ 4096 := by
 simp only [rightN, checkN] at h
 split at h
 ·simp at h
 ·split at h
  ·simp at h
  ·split at h
   ·simp at h
   ·split at h
    ·simp at h
    ·exact ⟨⟨by omega, by omega, by omega, by omega, by omega, by omega⟩, by omega⟩
set_option maxHeartbeats 400000 in
theorem right_any (t c b : Int) (w : World) (hs : Szs w) :
 Calls Tryz.prog 60 #[.agg #[.int .i64 t, .int .i64 c, .int .i64 b]] w fun e w' => e = .returned (.bool (rightN t c b)) ∧ ∃ r, w' = ext w r := by
 have HS := hid hs
 clear hs
 go_enter Tryz.func60, Tryz.ntmps60
 go_wp2_with fail
 go_call (check_any t c b _ (HS.out.alloc _)) as e w' ⟨rfl, r, rfl⟩
 go_wp2_with fail
 go_ret
 exact ⟨rfl, by exact exP⟩
def sizeN (t c b : Int) : Int := if rightN t c b = true then fromN t c b 7 else 0
set_option maxHeartbeats 400000 in
theorem size_any (t c b : Int) (w : World) (hs : Szs w) :
 Calls Tryz.prog 27 #[.agg #[.int .i64 t, .int .i64 c, .int .i64 b]] w fun e w' => e = .returned (.int .i64 (sizeN t c b)) ∧ ∃ r, w' = ext w r := by
 have HS := hid hs
 clear hs
 cases hr : rightN t c b
 ·have HR := hid (show sizeN t c b = 0 by simp [sizeN, hr])
  have HC := hid hr
  clear hr
  go_enter Tryz.func27, Tryz.ntmps27
  go_wp2_with fail
  go_call (right_any t c b _ (HS.out.alloc _)) as e w' ⟨rfl, r, rfl⟩
  rw [HC.out]
  go_wp2_with fail
  go_ret
  exact ⟨ret_int HR.out.symm, by exact exP⟩
 ·have HR := hid (show sizeN t c b = fromN t c b 7 by simp [sizeN, hr])
  have HC := hid hr
  clear hr
  go_enter Tryz.func27, Tryz.ntmps27
  go_wp2_with fail
  go_call (right_any t c b _ (HS.out.alloc _)) as e w' ⟨rfl, r, rfl⟩
  rw [HC.out]
  go_wp2_with fail
  go_call (from_any t c b 7 (by omega) _ (right_lok HC.out).1 ((HS.out.alloc _).ext _)) as e w' ⟨rfl, r2, rfl⟩
  go_wp2_with fail
  go_ret
  exact ⟨ret_int HR.out.symm, by exact exP⟩
open Go.RowKit
def atN (t c b : Int) (p : Nat) (i more : Int) : Int :=
 if rightN t c b = true ∧ 0 ≤ i ∧ i < manyN t c b p then fromN t c b p + i * szN p + more else -1
theorem sz_bd (p : Nat) : 0 ≤ szN p ∧ szN p ≤ 104 := by
 match p with
 | 0 => simp [szN]
 | 1 => simp [szN]
 | 2 => simp [szN]
 | 3 => simp [szN]
 | 4 => simp [szN]
 | 5 => simp [szN]
 | 6 => simp [szN]
 | _ + 7 => simp [szN]
theorem prod_bd {t c b : Int} (hk : Lok t c b) (p : Nat) {i : Int} (h0 : 0 ≤ i) (h1 : i < manyN t c b p) : 0 ≤ i * szN p ∧ i * szN p ≤ 3000 := by
 have hb := many_bd hk p
 have hs := sz_bd p
 have := Int.mul_le_mul_of_nonneg_right (Int.le_of_lt h1) hs.1
 exact ⟨Int.mul_nonneg h0 hs.1, by omega⟩
set_option maxHeartbeats 400000 in
theorem at_any (t c b : Int) (p : Nat) (hp : p < 7) (i more : Int) (hm : rightN t c b = true → 0 ≤ i → i < manyN t c b p → 0 ≤ more ∧ more ≤ 2) (w : World) (hs : Szs w) :
 Calls Tryz.prog 59 #[.agg #[.int .i64 t, .int .i64 c, .int .i64 b], .int .i64 p, .int .i64 i, .int .i64 more] w fun e w' => e = .returned (.int .i64 (atN t c b p i more)) ∧ ∃ r, w' = ext w r := by
 have HS := hid hs
 have hc := hs p hp
 have h0 := World.block_lt_of_cell? w _ hc
 simp only [] at h0
 have hp' : (p : Int) < 7 := by omega
 clear hs
 cases hr : rightN t c b
 ·have HR := hid (show atN t c b p i more = -1 by simp [atN, hr])
  have HC := hid hr
  clear hr hm
  go_enter Tryz.func59, Tryz.ntmps59
  go_wp2_with fail
  go_call (right_any t c b _ (HS.out.alloc _)) as e w' ⟨rfl, r, rfl⟩
  rw [HC.out]
  go_wp2_with fail
  go_ret
  exact ⟨ret_int HR.out.symm, by exact exP⟩
 ·have HC := hid hr
  by_cases hi : 0 ≤ i
  ·by_cases hj : i < manyN t c b p
   ·have HR := hid (show atN t c b p i more = fromN t c b p + i * szN p + more by simp [atN, hr, hi, hj])
    obtain ⟨hm1, hm2⟩ := hm hr hi hj
    have hk := (right_lok hr).1
    obtain ⟨hb1, hb2⟩ := prod_bd hk p hi hj
    obtain ⟨hf1, hf2⟩ := from_bd hk p
    have HK := hid hk
    clear hr hm hk
    go_enter Tryz.func59, Tryz.ntmps59
    go_wp2_with fail
    go_call (right_any t c b _ (HS.out.alloc _)) as e w' ⟨rfl, r, rfl⟩
    rw [HC.out]
    go_wp2_with fail
    go_call (many_any t c b p hp _) as e w' ⟨rfl, r2, rfl⟩
    go_wp2_with fail
    refine region_ext (by kernel_rfl) (by kernel_rfl) ?_
    repeat (go_big_quiet_step ((go_at_call 50; exact quiet_ext (from_any t c b p (by omega) _ HK.out ((((HS.out.alloc _).ext _).ext _).ext _)))))
    refine wpQuiet_nil ?_
    rintro _ ⟨r3, rfl⟩
    go_wp2_with fail
    go_ret
    exact ⟨ret_int HR.out.symm, by exact exP⟩
   ·have HR := hid (show atN t c b p i more = -1 by simp [atN, hj])
    clear hr hm
    go_enter Tryz.func59, Tryz.ntmps59
    go_wp2_with fail
    go_call (right_any t c b _ (HS.out.alloc _)) as e w' ⟨rfl, r, rfl⟩
    rw [HC.out]
    go_wp2_with fail
    go_call (many_any t c b p hp _) as e w' ⟨rfl, r2, rfl⟩
    go_wp2_with fail
    go_ret
    exact ⟨ret_int HR.out.symm, by exact exP⟩
  ·have HR := hid (show atN t c b p i more = -1 by simp [atN, hi])
   clear hr hm
   go_enter Tryz.func59, Tryz.ntmps59
   go_wp2_with fail
   go_call (right_any t c b _ (HS.out.alloc _)) as e w' ⟨rfl, r, rfl⟩
   rw [HC.out]
   go_wp2_with fail
   go_ret
   exact ⟨ret_int HR.out.symm, by exact exP⟩
open Go.RowKit
set_option maxHeartbeats 400000 in
theorem era_any (t c b : Int) (w : World) (hs : Szs w) :
 Calls Tryz.prog 91 #[.agg #[.int .i64 t, .int .i64 c, .int .i64 b]] w fun e w' => e = .returned (.int .i64 (atN t c b 0 0 1)) ∧ ∃ r, w' = ext w r := by
 have HS := hid hs
 clear hs
 go_enter Tryz.func91, Tryz.ntmps91
 go_wp2_with fail
 go_call (at_any t c b 0 (by omega) 0 1 (fun _ _ _ => by omega) _ (HS.out.alloc _)) as e w' ⟨rfl, r, rfl⟩
 go_wp2_with fail
 go_ret
 exact ⟨rfl, by exact exP⟩
set_option maxHeartbeats 400000 in
theorem slot_any (t c b x : Int) (w : World) (hs : Szs w) :
 Calls Tryz.prog 25 #[.agg #[.int .i64 t, .int .i64 c, .int .i64 b], .int .i64 x] w fun e w' => e = .returned (.int .i64 (atN t c b 4 (wrap64 (x - 1)) 0)) ∧ ∃ r, w' = ext w r := by
 have HS := hid hs
 clear hs
 go_enter Tryz.func25, Tryz.ntmps25
 go_wp2_with fail
 go_call (at_any t c b 4 (by omega) (wrap64 (x - 1)) 0 (fun _ _ _ => by omega) _ (HS.out.alloc _)) as e w' ⟨rfl, r, rfl⟩
 go_wp2_with fail
 go_ret
 exact ⟨rfl, by exact exP⟩
set_option maxHeartbeats 400000 in
theorem cell_any (t c b x : Int) (w : World) (hs : Szs w) :
 Calls Tryz.prog 24 #[.agg #[.int .i64 t, .int .i64 c, .int .i64 b], .int .i64 x] w fun e w' => e = .returned (.int .i64 (atN t c b 3 x 0)) ∧ ∃ r, w' = ext w r := by
 have HS := hid hs
 clear hs
 go_enter Tryz.func24, Tryz.ntmps24
 go_wp2_with fail
 go_call (at_any t c b 3 (by omega) x 0 (fun _ _ _ => by omega) _ (HS.out.alloc _)) as e w' ⟨rfl, r, rfl⟩
 go_wp2_with fail
 go_ret
 exact ⟨rfl, by exact exP⟩
set_option maxHeartbeats 400000 in
theorem block_any (t c b x : Int) (w : World) (hs : Szs w) :
 Calls Tryz.prog 26 #[.agg #[.int .i64 t, .int .i64 c, .int .i64 b], .int .i64 x] w fun e w' => e = .returned (.int .i64 (atN t c b 6 x 0)) ∧ ∃ r, w' = ext w r := by
 have HS := hid hs
 clear hs
 go_enter Tryz.func26, Tryz.ntmps26
 go_wp2_with fail
 go_call (at_any t c b 6 (by omega) x 0 (fun _ _ _ => by omega) _ (HS.out.alloc _)) as e w' ⟨rfl, r, rfl⟩
 go_wp2_with fail
 go_ret
 exact ⟨rfl, by exact exP⟩
def placeN (t c b who : Int) : Int × Int :=
 let at_ := if 9 ≤ who then atN t c b 6 (who - 9) 0 else atN t c b 4 (wrap64 (who - 1)) 0
 if at_ < 0 then (-1, 0) else (at_, if 9 ≤ who then 10 else 32)
set_option maxHeartbeats 400000 in
theorem place_any (t c b who : Int) (hw1 : -9223372036854775808 ≤ who) (hw2 : who ≤ 9223372036854775807) (w : World) (hs : Szs w) :
 Calls Tryz.prog 19 #[.agg #[.int .i64 t, .int .i64 c, .int .i64 b], .int .i64 who] w fun e w' => e = .returned (.tuple #[.int .i64 (placeN t c b who).1, .int .i64 (placeN t c b who).2]) ∧ ∃ r, w' = ext w r := by
 have HS := hid hs
 clear hs
 by_cases h9 : 9 ≤ who
 ·by_cases hn : atN t c b 6 (who - 9) 0 < 0
  ·have HR := hid (show placeN t c b who = (-1, 0) by simp [placeN, h9, hn])
   go_enter Tryz.func19, Tryz.ntmps19
   go_wp2_with fail
   go_call (slot_any t c b who _ (HS.out.alloc _)) as e w' ⟨rfl, r, rfl⟩
   go_wp2_with fail
   go_call (block_any t c b (who - 9) _ ((HS.out.alloc _).ext _)) as e w' ⟨rfl, r2, rfl⟩
   go_wp2_with fail
   go_ret2
   exact ⟨by rw [HR.out]; rfl, by exact exP⟩
  ·have HR := hid (show placeN t c b who = (atN t c b 6 (who - 9) 0, 10) by simp [placeN, h9, hn])
   go_enter Tryz.func19, Tryz.ntmps19
   go_wp2_with fail
   go_call (slot_any t c b who _ (HS.out.alloc _)) as e w' ⟨rfl, r, rfl⟩
   go_wp2_with fail
   go_call (block_any t c b (who - 9) _ ((HS.out.alloc _).ext _)) as e w' ⟨rfl, r2, rfl⟩
   go_wp2_with fail
   go_ret2
   exact ⟨by rw [HR.out]; rfl, by exact exP⟩
 ·by_cases hn : atN t c b 4 (wrap64 (who - 1)) 0 < 0
  ·have HR := hid (show placeN t c b who = (-1, 0) by simp [placeN, h9, hn])
   go_enter Tryz.func19, Tryz.ntmps19
   go_wp2_with fail
   go_call (slot_any t c b who _ (HS.out.alloc _)) as e w' ⟨rfl, r, rfl⟩
   go_wp2_with fail
   go_ret2
   exact ⟨by rw [HR.out]; rfl, by exact exP⟩
  ·have HR := hid (show placeN t c b who = (atN t c b 4 (wrap64 (who - 1)) 0, 32) by simp [placeN, h9, hn])
   go_enter Tryz.func19, Tryz.ntmps19
   go_wp2_with fail
   go_call (slot_any t c b who _ (HS.out.alloc _)) as e w' ⟨rfl, r, rfl⟩
   go_wp2_with fail
   go_ret2
   exact ⟨by rw [HR.out]; rfl, by exact exP⟩
def bitsN (t c b i : Int) : Int × Int :=
 if rightN t c b = true ∧ 0 ≤ i ∧ i < b then (fromN t c b 5 + i / 32, 2 ^ (i % 32).toNat) else (-1, 0)
def mayN (t c b n : Int) : Bool :=
 rightN t c b && (decide (fromN t c b 3 ≤ n ∧ n < fromN t c b 3 + c) || decide (fromN t c b 2 ≤ n ∧ n < fromN t c b 3 ∧ n % 8 < 3))
theorem from_mono {t c b : Int} (hk : Lok t c b) (k : Nat) : fromN t c b k ≤ fromN t c b (k + 1) := by
 have := long_bd hk k
 simp only [fromN]; omega
set_option maxHeartbeats 400000 in
theorem may_any (t c b n : Int) (hn1 : -9223372036854775808 ≤ n) (hn2 : n ≤ 9223372036854775807) (w : World) (hs : Szs w) :
 Calls Tryz.prog 28 #[.agg #[.int .i64 t, .int .i64 c, .int .i64 b], .int .i64 n] w fun e w' => e = .returned (.bool (mayN t c b n)) ∧ ∃ r, w' = ext w r := by
 have HS := hid hs
 clear hs
 cases hr : rightN t c b
 ·have HR := hid (show mayN t c b n = false by simp [mayN, hr])
  have HC := hid hr
  clear hr
  go_enter Tryz.func28, Tryz.ntmps28
  go_wp2_with fail
  go_call (right_any t c b _ (HS.out.alloc _)) as e w' ⟨rfl, r, rfl⟩
  rw [HC.out]
  go_wp2_with fail
  go_ret
  exact ⟨ret_bool HR.out.symm, by exact exP⟩
 ·have HC := hid hr
  have hk := (right_lok hr).1
  have HK := hid hk
  obtain ⟨hf1, hf2⟩ := from_bd hk 3
  obtain ⟨hg1, hg2⟩ := from_bd hk 2
  obtain ⟨_, _, hc1, hc2, _, _⟩ := hk
  have hmm : fromN t c b 2 ≤ fromN t c b 3 := from_mono HK.out 2
  by_cases h1 : fromN t c b 3 ≤ n
  ·by_cases h2 : n - fromN t c b 3 < c
   ·have HR := hid (show mayN t c b n = true by simp [mayN, hr, h1]; omega)
    clear hr
    go_enter Tryz.func28, Tryz.ntmps28
    go_wp2_with fail
    go_call (right_any t c b _ (HS.out.alloc _)) as e w' ⟨rfl, r, rfl⟩
    rw [HC.out]
    go_wp2_with fail
    go_call (from_any t c b 3 (by omega) _ HK.out ((HS.out.alloc _).ext _)) as e w' ⟨rfl, r2, rfl⟩
    go_wp2_with fail
    go_ret
    exact ⟨ret_bool HR.out.symm, by exact exP⟩
   ·have h3 : fromN t c b 2 ≤ n := by omega
    have h4 : ¬ n < fromN t c b 3 := by omega
    have HR := hid (show mayN t c b n = false by simp [mayN]; intro _; exact ⟨fun _ => by omega, fun _ _ => by omega⟩)
    clear hr
    go_enter Tryz.func28, Tryz.ntmps28
    go_wp2_with fail
    go_call (right_any t c b _ (HS.out.alloc _)) as e w' ⟨rfl, r, rfl⟩
    rw [HC.out]
    go_wp2_with fail
    go_call (from_any t c b 3 (by omega) _ HK.out ((HS.out.alloc _).ext _)) as e w' ⟨rfl, r2, rfl⟩
    go_wp2_with fail
    go_call (from_any t c b 2 (by omega) _ HK.out (((HS.out.alloc _).ext _).ext _)) as e w' ⟨rfl, r3, rfl⟩
    go_wp2_with fail
    go_call (from_any t c b 3 (by omega) _ HK.out ((((HS.out.alloc _).ext _).ext _).ext _)) as e w' ⟨rfl, r4, rfl⟩
    go_wp2_with fail
    go_ret
    exact ⟨ret_bool HR.out.symm, by exact exP⟩
  ·by_cases h5 : -9223372036854775808 ≤ n - fromN t c b 3
   ·by_cases h3 : fromN t c b 2 ≤ n
    ·by_cases h4 : n % 8 < 3
     ·have h0 : 0 ≤ n := by omega
      have HR := hid (show mayN t c b n = true by simp [mayN, hr]; omega)
      clear hr
      go_enter Tryz.func28, Tryz.ntmps28
      go_wp2_with fail
      go_call (right_any t c b _ (HS.out.alloc _)) as e w' ⟨rfl, r, rfl⟩
      rw [HC.out]
      go_wp2_with fail
      go_call (from_any t c b 3 (by omega) _ HK.out ((HS.out.alloc _).ext _)) as e w' ⟨rfl, r2, rfl⟩
      go_wp2_with fail
      go_call (from_any t c b 2 (by omega) _ HK.out (((HS.out.alloc _).ext _).ext _)) as e w' ⟨rfl, r3, rfl⟩
      go_wp2_with fail
      go_call (from_any t c b 3 (by omega) _ HK.out ((((HS.out.alloc _).ext _).ext _).ext _)) as e w' ⟨rfl, r4, rfl⟩
      go_wp2_with fail
      go_ret
      exact ⟨ret_bool HR.out.symm, by exact exP⟩
     ·have h0 : 0 ≤ n := by omega
      have h9 : decide (n % 8 < 3) = false := decide_eq_false h4
      have HR := hid (show mayN t c b n = false by simp [mayN]; intro _; exact ⟨fun _ => by omega, fun _ _ => by omega⟩)
      clear hr
      go_enter Tryz.func28, Tryz.ntmps28
      go_wp2_with fail
      go_call (right_any t c b _ (HS.out.alloc _)) as e w' ⟨rfl, r, rfl⟩
      rw [HC.out]
      go_wp2_with fail
      go_call (from_any t c b 3 (by omega) _ HK.out ((HS.out.alloc _).ext _)) as e w' ⟨rfl, r2, rfl⟩
      go_wp2_with fail
      go_call (from_any t c b 2 (by omega) _ HK.out (((HS.out.alloc _).ext _).ext _)) as e w' ⟨rfl, r3, rfl⟩
      go_wp2_with fail
      go_call (from_any t c b 3 (by omega) _ HK.out ((((HS.out.alloc _).ext _).ext _).ext _)) as e w' ⟨rfl, r4, rfl⟩
      go_wp2_with fail
      go_ret
      exact ⟨ret_bool HR.out.symm, by exact exP⟩
    ·skip
     have HR := hid (show mayN t c b n = false by simp [mayN]; intro _; exact ⟨fun _ => by omega, fun _ _ => by omega⟩)
     clear hr
     go_enter Tryz.func28, Tryz.ntmps28
     go_wp2_with fail
     go_call (right_any t c b _ (HS.out.alloc _)) as e w' ⟨rfl, r, rfl⟩
     rw [HC.out]
     go_wp2_with fail
     go_call (from_any t c b 3 (by omega) _ HK.out ((HS.out.alloc _).ext _)) as e w' ⟨rfl, r2, rfl⟩
     go_wp2_with fail
     go_call (from_any t c b 2 (by omega) _ HK.out (((HS.out.alloc _).ext _).ext _)) as e w' ⟨rfl, r3, rfl⟩
     go_wp2_with fail
     go_ret
     exact ⟨ret_bool HR.out.symm, by exact exP⟩
   ·have h6 : wrap64 (n - fromN t c b 3) = n - fromN t c b 3 + 18446744073709551616 := by unfold wrap64; omega
    have h7 : 0 ≤ wrap64 (n - fromN t c b 3) := by omega
    have h8 : ¬ wrap64 (n - fromN t c b 3) < c := by omega
    have h3 : ¬ fromN t c b 2 ≤ n := by omega
    clear h6
    have HR := hid (show mayN t c b n = false by simp [mayN]; intro _; exact ⟨fun _ => by omega, fun _ _ => by omega⟩)
    clear hr
    go_enter Tryz.func28, Tryz.ntmps28
    go_wp2_with fail
    go_call (right_any t c b _ (HS.out.alloc _)) as e w' ⟨rfl, r, rfl⟩
    rw [HC.out]
    go_wp2_with fail
    go_call (from_any t c b 3 (by omega) _ HK.out ((HS.out.alloc _).ext _)) as e w' ⟨rfl, r2, rfl⟩
    go_wp2_with fail
    go_call (from_any t c b 2 (by omega) _ HK.out (((HS.out.alloc _).ext _).ext _)) as e w' ⟨rfl, r3, rfl⟩
    go_wp2_with fail
    go_ret
    exact ⟨ret_bool HR.out.symm, by exact exP⟩
end Go.Proofs.YtiacdohaiidehaaGreatDoor
