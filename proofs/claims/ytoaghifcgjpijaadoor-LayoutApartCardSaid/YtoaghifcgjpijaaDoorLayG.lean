/- Walks of the reference's Check and Find and of the laws' own helper 'all'; the reference's list has the layout's length. -/
import Derived.Test.YtoaghifcgjpijaaDoorLayF
namespace Go.Proofs.YtoaghifcgjpijaaDoor
open Go.RowKit

theorem allL_len (T C B : Nat) : (allL T C B).length = 8 + 16 * T + C + padN C + 104 * T + (if 0 < B then 8 else 0) + 32 * B := out7_len T C B B

theorem allL_from (T C B : Nat) : ((allL T C B).length : Int) = fromN T C B 7 := by
  rw [allL_len]
  simp only [fromN, longN, manyN, szN, upN, padN]
  split <;> split <;> simp <;> omega

set_option maxHeartbeats 1000000 in
theorem rcheck_bad (t c b : Int) (h : ¬ Lok t c b) (w : World) :
    Calls Tryd.prog 11 #[.int .i64 t, .int .i64 c, .int .i64 b] w fun e w' => e = .returned (.int .i64 3) ∧ ∃ r, w' = ext w r := by
  by_cases h1 : t < 1
  · go_enter Tryd.func11, Tryd.ntmps11
    go_wp2_with fail
    go_ret
    exact ⟨rfl, by (show Ext _ _; repeat (first | with_reducible exact Ext.refl _ | with_reducible refine Ext.ext ?_ _ | with_reducible refine Ext.alloc ?_ _ | refine Ext.drew ?_ | refine Ext.drewN ?_ _ | exact Ext.refl _))⟩
  by_cases h2 : 8 < t
  · go_enter Tryd.func11, Tryd.ntmps11
    go_wp2_with fail
    go_ret
    exact ⟨rfl, by (show Ext _ _; repeat (first | with_reducible exact Ext.refl _ | with_reducible refine Ext.ext ?_ _ | with_reducible refine Ext.alloc ?_ _ | refine Ext.drew ?_ | refine Ext.drewN ?_ _ | exact Ext.refl _))⟩
  by_cases h3 : c < 1
  · go_enter Tryd.func11, Tryd.ntmps11
    go_wp2_with fail
    go_ret
    exact ⟨rfl, by (show Ext _ _; repeat (first | with_reducible exact Ext.refl _ | with_reducible refine Ext.ext ?_ _ | with_reducible refine Ext.alloc ?_ _ | refine Ext.drew ?_ | refine Ext.drewN ?_ _ | exact Ext.refl _))⟩
  by_cases h4 : 2048 < c
  · go_enter Tryd.func11, Tryd.ntmps11
    go_wp2_with fail
    go_ret
    exact ⟨rfl, by (show Ext _ _; repeat (first | with_reducible exact Ext.refl _ | with_reducible refine Ext.ext ?_ _ | with_reducible refine Ext.alloc ?_ _ | refine Ext.drew ?_ | refine Ext.drewN ?_ _ | exact Ext.refl _))⟩
  by_cases h5 : b < 0
  · go_enter Tryd.func11, Tryd.ntmps11
    go_wp2_with fail
    go_ret
    exact ⟨rfl, by (show Ext _ _; repeat (first | with_reducible exact Ext.refl _ | with_reducible refine Ext.ext ?_ _ | with_reducible refine Ext.alloc ?_ _ | refine Ext.drew ?_ | refine Ext.drewN ?_ _ | exact Ext.refl _))⟩
  by_cases h6 : 64 < b
  · go_enter Tryd.func11, Tryd.ntmps11
    go_wp2_with fail
    go_ret
    exact ⟨rfl, by (show Ext _ _; repeat (first | with_reducible exact Ext.refl _ | with_reducible refine Ext.ext ?_ _ | with_reducible refine Ext.alloc ?_ _ | refine Ext.drew ?_ | refine Ext.drewN ?_ _ | exact Ext.refl _))⟩
  exact absurd ⟨by omega, by omega, by omega, by omega, by omega, by omega⟩ h

set_option maxRecDepth 100000 in
set_option maxHeartbeats 1000000 in
theorem rcheck_any (t c b : Int) (w : World) :
    Calls Tryd.prog 11 #[.int .i64 t, .int .i64 c, .int .i64 b] w fun e w' => e = .returned (.int .i64 (checkN t c b)) ∧ ∃ r, w' = ext w r := by
  by_cases hk : Lok t c b
  · obtain ⟨h1, h2, h3, h4, h5, h6⟩ := hk
    obtain ⟨T, rfl⟩ := Int.eq_ofNat_of_zero_le (show 0 ≤ t by omega)
    obtain ⟨C, rfl⟩ := Int.eq_ofNat_of_zero_le (show 0 ≤ c by omega)
    obtain ⟨B, rfl⟩ := Int.eq_ofNat_of_zero_le h5
    have HN : Hid (checkN T C B = if 4096 < fromN T C B 7 then 19 else 0) := hid (by
      simp only [checkN]; rw [if_neg (by omega), if_neg (by omega), if_neg (by omega)])
    have HL := hid (allL_from T C B)
    by_cases hf : 4096 < (allL T C B).length
    · have hf' : (4096 : Int) < ((allL T C B).length : Int) := by omega
      have HR := hid (show checkN T C B = 19 by rw [HN.out, ← HL.out, if_pos hf'])
      clear hf'
      go_enter Tryd.func11, Tryd.ntmps11
      go_wp2_with fail
      go_call (all_any T C B (by omega) (by omega) (by omega) (by omega) (by omega) _) as e w' ⟨v, rfl, ⟨r, rfl⟩, hv⟩
      obtain ⟨a, cp, rfl⟩ := Own.shape hv
      have HV := hid hv
      clear hv
      go_wp2_with fail
      go_ret
      exact ⟨ret_int HR.out.symm, by (show Ext _ _; repeat (first | with_reducible exact Ext.refl _ | with_reducible refine Ext.ext ?_ _ | with_reducible refine Ext.alloc ?_ _ | refine Ext.drew ?_ | refine Ext.drewN ?_ _ | exact Ext.refl _))⟩
    · have hf' : ¬ (4096 : Int) < ((allL T C B).length : Int) := by omega
      have HR := hid (show checkN T C B = 0 by rw [HN.out, ← HL.out, if_neg hf'])
      clear hf'
      go_enter Tryd.func11, Tryd.ntmps11
      go_wp2_with fail
      go_call (all_any T C B (by omega) (by omega) (by omega) (by omega) (by omega) _) as e w' ⟨v, rfl, ⟨r, rfl⟩, hv⟩
      obtain ⟨a, cp, rfl⟩ := Own.shape hv
      have HV := hid hv
      clear hv
      go_wp2_with fail
      go_ret
      exact ⟨ret_int HR.out.symm, by (show Ext _ _; repeat (first | with_reducible exact Ext.refl _ | with_reducible refine Ext.ext ?_ _ | with_reducible refine Ext.alloc ?_ _ | refine Ext.drew ?_ | refine Ext.drewN ?_ _ | exact Ext.refl _))⟩
  · refine (rcheck_bad t c b hk w).mono fun e w' ⟨h1, h2⟩ => ⟨?_, h2⟩
    rw [h1]
    refine ret_int ?_
    simp only [checkN]
    split
    · rfl
    · split
      · rfl
      · split
        · rfl
        · exact absurd ⟨by omega, by omega, by omega, by omega, by omega, by omega⟩ hk

/-- Plain: the list of the laws' helper 'all'. -/
def allK (t c b : Int) : List Kd := if checkN t c b = 0 then allL t.toNat c.toNat b.toNat else []

set_option maxHeartbeats 1000000 in
theorem lall_any (t c b : Int) (w : World) :
    Calls Tryd.prog 13 #[.agg #[.int .i64 t, .int .i64 c, .int .i64 b]] w fun e w' => ∃ v, e = .returned v ∧ (∃ r, w' = ext w r) ∧ Ks w' w.heap.size v (allK t c b) := by
  by_cases hc : checkN t c b = 0
  · have hr : rightN t c b = true := by simp [rightN, hc]
    obtain ⟨h1, h2, h3, h4, h5, h6⟩ := (right_lok hr).1
    obtain ⟨T, rfl⟩ := Int.eq_ofNat_of_zero_le (show 0 ≤ t by omega)
    obtain ⟨C, rfl⟩ := Int.eq_ofNat_of_zero_le (show 0 ≤ c by omega)
    obtain ⟨B, rfl⟩ := Int.eq_ofNat_of_zero_le h5
    have HN := hid (show allK T C B = allL T C B by simp [allK, hc])
    have HC := hid hc
    clear hc hr
    go_enter Tryd.func13, Tryd.ntmps13
    go_wp2_with fail
    go_call (rcheck_any T C B _) as e w' ⟨rfl, r, rfl⟩
    rw [HC.out]
    go_wp2_with fail
    go_call (all_any T C B (by omega) (by omega) (by omega) (by omega) (by omega) _) as e w' ⟨v, rfl, ⟨r2, rfl⟩, hv⟩
    have HV := hid hv
    clear hv
    go_wp2_with fail
    go_ret
    exact ⟨_, rfl, by (show Ext _ _; repeat (first | with_reducible exact Ext.refl _ | with_reducible refine Ext.ext ?_ _ | with_reducible refine Ext.alloc ?_ _ | refine Ext.drew ?_ | refine Ext.drewN ?_ _ | exact Ext.refl _)), by rw [HN.out]; exact Own.mono HV.out (by (first | exact Nat.le_refl _ | (simp only [World.size_alloc, World.size_setCell, World.size_drew, size_ext]; omega)))⟩
  · have HN := hid (show allK t c b = [] by simp [allK, hc])
    have hc' : (checkN t c b != 0) = true := by simpa using hc
    clear hc
    go_enter Tryd.func13, Tryd.ntmps13
    go_wp2_with fail
    go_call (rcheck_any t c b _) as e w' ⟨rfl, r, rfl⟩
    go_wp2_with fail
    go_ret
    exact ⟨_, rfl, by (show Ext _ _; repeat (first | with_reducible exact Ext.refl _ | with_reducible refine Ext.ext ?_ _ | with_reducible refine Ext.alloc ?_ _ | refine Ext.drew ?_ | refine Ext.drewN ?_ _ | exact Ext.refl _)), by rw [HN.out]; exact Own.nil⟩

/-- Plain: the first location with the given use, or -1. -/
def findN (l : List Kd) (k : Kd) : Int := match l.findIdx? (· == k) with | some i => i | none => -1

end Go.Proofs.YtoaghifcgjpijaaDoor
