/- Walks of package layout's location functions. -/
import Derived.Test.YtojcojghnhibmaaDoorLayC
namespace Go.Proofs.YtojcojghnhibmaaDoor
open Go.RowKit

/-- Plain: a location of item i of a part, or -1. -/
def atN (t c b : Int) (p : Nat) (i more : Int) : Int :=
  if rightN t c b = true ∧ 0 ≤ i ∧ i < manyN t c b p then fromN t c b p + i * szN p + more else -1

theorem sz_bd (p : Nat) : 0 ≤ szN p ∧ szN p ≤ 104 := by
  match p with
  | 0 => simp [szN]
  | 1 => simp [szN]
  | 2 => simp [szN]
  | 3 => simp [szN]
  | 4 => simp [szN]
  | 5 => simp [szN]
  | 6 => simp [szN]
  | _ + 7 => simp [szN]

theorem prod_bd {t c b : Int} (hk : Lok t c b) (p : Nat) {i : Int} (h0 : 0 ≤ i) (h1 : i < manyN t c b p) : 0 ≤ i * szN p ∧ i * szN p ≤ 3000 := by
  have hb := many_bd hk p
  have hs := sz_bd p
  have := Int.mul_le_mul_of_nonneg_right (Int.le_of_lt h1) hs.1
  exact ⟨Int.mul_nonneg h0 hs.1, by omega⟩

set_option maxHeartbeats 400000 in
theorem at_any (t c b : Int) (p : Nat) (hp : p < 7) (i more : Int) (hm : rightN t c b = true → 0 ≤ i → i < manyN t c b p → 0 ≤ more ∧ more ≤ 2) (w : World) (hs : Szs w) :
    Calls Tryd.prog 43 #[.agg #[.int .i64 t, .int .i64 c, .int .i64 b], .int .i64 p, .int .i64 i, .int .i64 more] w fun e w' => e = .returned (.int .i64 (atN t c b p i more)) ∧ ∃ r, w' = ext w r := by
  have HS := hid hs
  have hc := hs p hp
  have h0 := World.block_lt_of_cell? w _ hc
  simp only [] at h0
  have hp' : (p : Int) < 7 := by omega
  clear hs
  cases hr : rightN t c b
  · have HR := hid (show atN t c b p i more = -1 by simp [atN, hr])
    have HC := hid hr
    clear hr hm
    go_enter Tryd.func43, Tryd.ntmps43
    go_wp2_with fail
    go_call (right_any t c b _ (HS.out.alloc _)) as e w' ⟨rfl, r, rfl⟩
    rw [HC.out]
    go_wp2_with fail
    go_ret
    exact ⟨ret_int HR.out.symm, by (show Ext _ _; repeat (first | with_reducible (refine Hid.out ?_; assumption) | with_reducible exact Ext.refl _ | with_reducible refine Ext.ext ?_ _ | with_reducible refine Ext.alloc ?_ _ | refine Ext.drew ?_ | refine Ext.drewN ?_ _ | exact Ext.refl _))⟩
  · have HC := hid hr
    by_cases hi : 0 ≤ i
    · by_cases hj : i < manyN t c b p
      · have HR := hid (show atN t c b p i more = fromN t c b p + i * szN p + more by simp [atN, hr, hi, hj])
        obtain ⟨hm1, hm2⟩ := hm hr hi hj
        have hk := (right_lok hr).1
        obtain ⟨hb1, hb2⟩ := prod_bd hk p hi hj
        obtain ⟨hf1, hf2⟩ := from_bd hk p
        have HK := hid hk
        clear hr hm hk
        go_enter Tryd.func43, Tryd.ntmps43
        go_wp2_with fail
        go_call (right_any t c b _ (HS.out.alloc _)) as e w' ⟨rfl, r, rfl⟩
        rw [HC.out]
        go_wp2_with fail
        go_call (many_any t c b p hp _) as e w' ⟨rfl, r2, rfl⟩
        go_wp2_with fail
        refine region_ext (by kernel_rfl) (by kernel_rfl) ?_
        repeat (go_big_quiet_step ((go_at_call 44; exact quiet_ext (from_any t c b p (by omega) _ HK.out ((((HS.out.alloc _).ext _).ext _).ext _)))))
        refine wpQuiet_nil ?_
        rintro _ ⟨r3, rfl⟩
        go_wp2_with fail
        go_ret
        exact ⟨ret_int HR.out.symm, by (show Ext _ _; repeat (first | with_reducible (refine Hid.out ?_; assumption) | with_reducible exact Ext.refl _ | with_reducible refine Ext.ext ?_ _ | with_reducible refine Ext.alloc ?_ _ | refine Ext.drew ?_ | refine Ext.drewN ?_ _ | exact Ext.refl _))⟩
      · have HR := hid (show atN t c b p i more = -1 by simp [atN, hj])
        clear hr hm
        go_enter Tryd.func43, Tryd.ntmps43
        go_wp2_with fail
        go_call (right_any t c b _ (HS.out.alloc _)) as e w' ⟨rfl, r, rfl⟩
        rw [HC.out]
        go_wp2_with fail
        go_call (many_any t c b p hp _) as e w' ⟨rfl, r2, rfl⟩
        go_wp2_with fail
        go_ret
        exact ⟨ret_int HR.out.symm, by (show Ext _ _; repeat (first | with_reducible (refine Hid.out ?_; assumption) | with_reducible exact Ext.refl _ | with_reducible refine Ext.ext ?_ _ | with_reducible refine Ext.alloc ?_ _ | refine Ext.drew ?_ | refine Ext.drewN ?_ _ | exact Ext.refl _))⟩
    · have HR := hid (show atN t c b p i more = -1 by simp [atN, hi])
      clear hr hm
      go_enter Tryd.func43, Tryd.ntmps43
      go_wp2_with fail
      go_call (right_any t c b _ (HS.out.alloc _)) as e w' ⟨rfl, r, rfl⟩
      rw [HC.out]
      go_wp2_with fail
      go_ret
      exact ⟨ret_int HR.out.symm, by (show Ext _ _; repeat (first | with_reducible (refine Hid.out ?_; assumption) | with_reducible exact Ext.refl _ | with_reducible refine Ext.ext ?_ _ | with_reducible refine Ext.alloc ?_ _ | refine Ext.drew ?_ | refine Ext.drewN ?_ _ | exact Ext.refl _))⟩

end Go.Proofs.YtojcojghnhibmaaDoor
