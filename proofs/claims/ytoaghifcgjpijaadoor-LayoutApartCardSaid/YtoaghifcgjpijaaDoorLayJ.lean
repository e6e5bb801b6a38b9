/- The walk of the laws' own example check 'awake' and the statement LayoutChecks's walk. -/
import Derived.Test.YtoaghifcgjpijaaDoorLayI
import Derived.Deep.RegionHeld3
namespace Go.Proofs.YtoaghifcgjpijaaDoor
open Go.RowKit

set_option maxRecDepth 100000 in
set_option maxHeartbeats 2000000 in
theorem awake_any (w : World) (hs : Szs w) :
    Calls Tryd.prog 9 #[] w fun e w' => e = .returned (.bool true) ∧ ∃ r, w' = ext w r := by
  have HS := hid hs
  clear hs
  have B1 := hid (show bitsN 2 3 1 0 = (256, 1) by decide)
  have B2 := hid (show checkN 2 3 0 = 0 by decide)
  have B3 := hid (show sizeN 2 3 0 = 256 by decide)
  have B4 := hid (show atN 2 3 0 1 (wrap64 (2 - 1)) 0 = 16 by rw [show wrap64 (2 - 1) = 1 from by simp [wrap64]]; decide)
  have B5 := hid (show atN 2 3 0 2 (wrap64 (1 - 1)) 0 = 24 by rw [show wrap64 (1 - 1) = 0 from by simp [wrap64]]; decide)
  have B6 := hid (show atN 2 3 0 3 0 0 = 40 by decide)
  have B7 := hid (show atN 2 3 0 4 (wrap64 (2 - 1)) 0 = 152 by rw [show wrap64 (2 - 1) = 1 from by simp [wrap64]]; decide)
  have B8 := hid (show atN 2 3 1 6 0 0 = 264 by decide)
  have B9 := hid (show sizeN 2 3 1 = 296 by decide)
  go_enter Tryd.func9, Tryd.ntmps9
  go_wp2_with fail
  go_call (bits_any 2 3 1 0 (by omega) (by omega) _ ((HS.out.alloc _).alloc _)) as e w' ⟨rfl, r1, rfl⟩
  rw [B1.out]
  go_wp2_with fail
  go_call (check_any 2 3 0 _ (((HS.out.alloc _).alloc _).ext _)) as e w' ⟨rfl, r2, rfl⟩
  rw [B2.out]
  go_wp2_with fail
  go_call (size_any 2 3 0 _ ((((HS.out.alloc _).alloc _).ext _).ext _)) as e w' ⟨rfl, r3, rfl⟩
  rw [B3.out]
  go_wp2_with fail
  go_call (announce_any 2 3 0 2 _ (((((HS.out.alloc _).alloc _).ext _).ext _).ext _)) as e w' ⟨rfl, r4, rfl⟩
  rw [B4.out]
  go_wp2_with fail
  go_call (record_any 2 3 0 1 _ ((((((HS.out.alloc _).alloc _).ext _).ext _).ext _).ext _)) as e w' ⟨rfl, r5, rfl⟩
  rw [B5.out]
  go_wp2_with fail
  go_call (cell_any 2 3 0 0 _ (((((((HS.out.alloc _).alloc _).ext _).ext _).ext _).ext _).ext _)) as e w' ⟨rfl, r6, rfl⟩
  rw [B6.out]
  go_wp2_with fail
  go_call (slot_any 2 3 0 2 _ ((((((((HS.out.alloc _).alloc _).ext _).ext _).ext _).ext _).ext _).ext _)) as e w' ⟨rfl, r7, rfl⟩
  rw [B7.out]
  go_wp2_with fail
  go_call (block_any 2 3 1 0 _ (((((((((HS.out.alloc _).alloc _).ext _).ext _).ext _).ext _).ext _).ext _).ext _)) as e w' ⟨rfl, r8, rfl⟩
  rw [B8.out]
  go_wp2_with fail
  go_call (size_any 2 3 1 _ ((((((((((HS.out.alloc _).alloc _).ext _).ext _).ext _).ext _).ext _).ext _).ext _).ext _)) as e w' ⟨rfl, r9, rfl⟩
  rw [B9.out]
  go_wp2_with fail
  go_ret
  exact ⟨rfl, by (show Ext _ _; repeat (first | with_reducible exact Ext.refl _ | with_reducible refine Ext.ext ?_ _ | with_reducible refine Ext.alloc ?_ _ | refine Ext.drew ?_ | refine Ext.drewN ?_ _ | exact Ext.refl _))⟩

theorem allK_size (t c b : Int) : (((allK t c b).length : Nat) : Int) = sizeN t c b := by
  by_cases hc : checkN t c b = 0
  · have hr : rightN t c b = true := by simp [rightN, hc]
    obtain ⟨h1, h2, h3, h4, h5, h6⟩ := (right_lok hr).1
    obtain ⟨T, rfl⟩ := Int.eq_ofNat_of_zero_le (show 0 ≤ t by omega)
    obtain ⟨C, rfl⟩ := Int.eq_ofNat_of_zero_le (show 0 ≤ c by omega)
    obtain ⟨B, rfl⟩ := Int.eq_ofNat_of_zero_le h5
    simp only [allK, hc, if_true, sizeN, hr, Int.toNat_natCast]
    exact allL_from T C B
  · have hr : rightN t c b = false := by simp [rightN, hc]
    simp [allK, hc, sizeN, hr]

set_option maxRecDepth 100000 in
set_option maxHeartbeats 2000000 in
theorem checks_any (t c b : Int) (w : World) (hs : Szs w) :
    Calls Tryd.prog 3 #[.agg #[.int .i64 t, .int .i64 c, .int .i64 b]] w fun e w' => e = .returned (.bool true) ∧ ∃ r, w' = ext w r := by
  have HS := hid hs
  clear hs
  have hsz := allK_size t c b
  go_enter Tryd.func3, Tryd.ntmps3
  go_wp2_with fail
  go_region_held3 (fun w' => w'.cell? ⟨w.heap.size, 0, none⟩ = some (.int .i64 t) ∧ w'.cell? ⟨w.heap.size, 1, none⟩ = some (.int .i64 c) ∧ w'.cell? ⟨w.heap.size, 2, none⟩ = some (.int .i64 b))
    (exact ⟨by simp [go_sem], by simp [go_sem], by simp [go_sem]⟩)
    (first
      | (go_at_call 9; refine (awake_any _ (HS.out.of (by (show Ext _ _; repeat (first | with_reducible exact Ext.refl _ | with_reducible refine Ext.ext ?_ _ | with_reducible refine Ext.alloc ?_ _ | refine Ext.drew ?_ | refine Ext.drewN ?_ _ | exact Ext.refl _))))).mono ?_; rintro e w' ⟨rfl, r1, rfl⟩)
      | (go_at_call 10; refine (check_any t c b _ (HS.out.of (by (show Ext _ _; repeat (first | with_reducible exact Ext.refl _ | with_reducible refine Ext.ext ?_ _ | with_reducible refine Ext.alloc ?_ _ | refine Ext.drew ?_ | refine Ext.drewN ?_ _ | exact Ext.refl _))))).mono ?_; rintro e w' ⟨rfl, r2, rfl⟩)
      | (go_at_call 11; refine (rcheck_any t c b _).mono ?_; rintro e w' ⟨rfl, r3, rfl⟩)
      | (go_at_call 12; refine (size_any t c b _ (HS.out.of (by (show Ext _ _; repeat (first | with_reducible exact Ext.refl _ | with_reducible refine Ext.ext ?_ _ | with_reducible refine Ext.alloc ?_ _ | refine Ext.drew ?_ | refine Ext.drewN ?_ _ | exact Ext.refl _))))).mono ?_; rintro e w' ⟨rfl, r4, rfl⟩)
      | (go_at_call 13; refine (lall_any t c b _).mono ?_; rintro e w' ⟨v, rfl, ⟨r5, rfl⟩, hv⟩; obtain ⟨a, cp, rfl⟩ := Own.shape hv; clear hv))
  go_wp2_with fail
  go_ret
  exact ⟨rfl, by (show Ext _ _; repeat (first | with_reducible exact Ext.refl _ | with_reducible refine Ext.ext ?_ _ | with_reducible refine Ext.alloc ?_ _ | refine Ext.drew ?_ | refine Ext.drewN ?_ _ | exact Ext.refl _))⟩

end Go.Proofs.YtoaghifcgjpijaaDoor
