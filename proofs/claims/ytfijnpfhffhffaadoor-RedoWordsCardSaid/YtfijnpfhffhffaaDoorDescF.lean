/- Walks of the reference of descriptors: Entry, Unpack. -/
import Derived.Test.YtfijnpfhffhffaaDoorDescD
namespace Go.Proofs.YtfijnpfhffhffaaDoor
set_option linter.unusedSimpArgs false
set_option linter.unusedVariables false
open Go.RowKit

set_option maxHeartbeats 1000000 in
theorem rentry_any (loc val ver ref new : Int) (wr : Bool) (w : World) :
    Calls Tryd.prog 72 #[.agg #[.int .i64 loc, .int .i64 val, .int .u32 ver, .int .u32 ref, .int .i64 new, .bool wr]] w fun e w' =>
      e = .returned (.agg #[.int .i64 loc, .int .u32 (if wr = true then 1 else 0), .int .u32 0, .int .i64 val, .int .u32 ver, .int .u32 0, .int .i64 new, .int .u32 0, .int .u32 0]) ∧ ∃ r, w' = ext w r := by
  cases wr
  · go_enter Tryd.func72, Tryd.ntmps72
    (repeat (first | go_values | go_skip | go_guarded | go_step | go_upon | (simp only [Int.not_lt, Int.not_le] at *; go_simp) | (go_ite <;> go_prune <;> (try go_simp))))
    exact bodyPost_ret (v := .agg #[.int .i64 loc, .int .u32 0, .int .u32 0, .int .i64 val, .int .u32 ver, .int .u32 0, .int .i64 new, .int .u32 0, .int .u32 0]) (by simp [results, Tryd.results72, go_sem]) rfl ⟨rfl, by (show Ext _ _; repeat (first | with_reducible (refine Hid.out ?_; assumption) | with_reducible exact Ext.refl _ | with_reducible refine Ext.ext ?_ _ | with_reducible refine Ext.alloc ?_ _ | with_reducible refine Ext.drew ?_ | with_reducible refine Ext.setCell ?_ (by (try dsimp only); first | omega | (simp; done) | (simp; omega)) _))⟩
  · go_enter Tryd.func72, Tryd.ntmps72
    (repeat (first | go_values | go_skip | go_guarded | go_step | go_upon | (simp only [Int.not_lt, Int.not_le] at *; go_simp) | (go_ite <;> go_prune <;> (try go_simp))))
    exact bodyPost_ret (v := .agg #[.int .i64 loc, .int .u32 1, .int .u32 0, .int .i64 val, .int .u32 ver, .int .u32 0, .int .i64 new, .int .u32 0, .int .u32 0]) (by simp [results, Tryd.results72, go_sem]) rfl ⟨rfl, by (show Ext _ _; repeat (first | with_reducible (refine Hid.out ?_; assumption) | with_reducible exact Ext.refl _ | with_reducible refine Ext.ext ?_ _ | with_reducible refine Ext.alloc ?_ _ | with_reducible refine Ext.drew ?_ | with_reducible refine Ext.setCell ?_ (by (try dsimp only); first | omega | (simp; done) | (simp; omega)) _))⟩

set_option maxRecDepth 100000 in
set_option maxHeartbeats 4000000 in
theorem runpack_any (x1 x2 x3 y1 y2 y3 z1 z2 z3 : Int) (hx0 : 0 ≤ x2) (w : World) :
    Calls Tryd.prog 66 #[.agg #[.int .i64 x1, .int .u32 x2, .int .u32 x3, .int .i64 y1, .int .u32 y2, .int .u32 y3, .int .i64 z1, .int .u32 z2, .int .u32 z3]] w fun e w' =>
      (e = if unpackB (x1, x2, x3) (y1, y2, y3) (z1, z2, z3) = true then .returned (.tuple #[.agg #[.int .i64 x1, .int .i64 y1, .int .u32 y2, .int .u32 y3, .int .i64 z1, .bool (x2 == 1)], .bool true])
        else .returned (.tuple #[.agg #[.int .i64 0, .int .i64 0, .int .u32 0, .int .u32 0, .int .i64 0, .bool false], .bool false])) ∧ ∃ r, w' = ext w r := by
  have hna := neq_arr
  have hga := eq_guard_arr
  by_cases hr : (0 ≤ x1 ∧ x1 < 4096) ∧ x2 ≤ 1
  rotate_left
  · have HR := hid (show unpackB (x1, x2, x3) (y1, y2, y3) (z1, z2, z3) = false by
      unfold unpackB
      by_cases h9 : 0 ≤ x1 ∧ x1 < 4096
      · rw [decide_eq_false (show ¬ (x2 = 0 ∨ x2 = 1) by omega)]; simp
      · rw [decide_eq_false h9]; rfl)
    have hc : x1 < 0 ∨ (¬ x1 < 0 ∧ 4096 ≤ x1) ∨ (¬ x1 < 0 ∧ ¬ 4096 ≤ x1 ∧ 1 < x2) := by omega
    rw [HR.out]
    simp only [Bool.false_eq_true, if_false]
    clear hr
    rcases hc with h1 | ⟨h1, h2⟩ | ⟨h1, h2, h3⟩
    all_goals
      go_enter Tryd.func66, Tryd.ntmps66
      (repeat (first | go_values | go_skip | go_guarded | go_step | go_upon | (simp only [Int.not_lt, Int.not_le] at *; go_simp) | (go_ite <;> go_prune <;> (try go_simp))))
      exact bodyPost_ret (v := .tuple #[.agg #[.int .i64 0, .int .i64 0, .int .u32 0, .int .u32 0, .int .i64 0, .bool false], .bool false]) (by simp [results, Tryd.results66, go_sem]) rfl ⟨rfl, by (show Ext _ _; repeat (first | with_reducible (refine Hid.out ?_; assumption) | with_reducible exact Ext.refl _ | with_reducible refine Ext.ext ?_ _ | with_reducible refine Ext.alloc ?_ _ | with_reducible refine Ext.drew ?_ | with_reducible refine Ext.setCell ?_ (by (try dsimp only); first | omega | (simp; done) | (simp; omega)) _))⟩
  · have hn1 : ¬ x1 < 0 := by omega
    have hn2 : ¬ 4096 ≤ x1 := by omega
    have hn3 : ¬ 1 < x2 := by omega
    have HU := hid (show unpackB (x1, x2, x3) (y1, y2, y3) (z1, z2, z3) = (wdB (x1, (if (x2 == 1) = true then 1 else 0), 0) (x1, x2, x3) && wdB (y1, y2, 0) (y1, y2, y3) && wdB (z1, 0, 0) (z1, z2, z3)) by
      rw [unpack_eq (x1, x2, x3) (y1, y2, y3) (z1, z2, z3)]; unfold unpackB; rw [decide_eq_true hr.1]; rfl)
    have hx01 : x2 = 1 ∨ x2 = 0 := by omega
    clear hr
    rcases hx01 with rfl | rfl
    · have hbq : ((1 : Int) == (1 : Int)) = true := by simp
      rw [hbq] at HU ⊢
      have HU2 := hid (show unpackB (x1, 1, x3) (y1, y2, y3) (z1, z2, z3) = (wdB (x1, 1, 0) (x1, 1, x3) && wdB (y1, y2, 0) (y1, y2, y3) && wdB (z1, 0, 0) (z1, z2, z3)) from HU.out)
      clear HU
      cases h1 : wdB (x1, 1, 0) (x1, 1, x3) <;> cases h2 : wdB (y1, y2, 0) (y1, y2, y3) <;> cases h3 : wdB (z1, 0, 0) (z1, z2, z3)
      all_goals
        have HV := HU2.out
        have H2 := hid h2
        rw [h1, h2, h3] at HV
        rw [HV]
        clear HV HU2
        simp only [Bool.and_true, Bool.and_false, Bool.false_eq_true, if_true, if_false]
        go_enter Tryd.func66, Tryd.ntmps66
        go_wp2_with fail
        refine region_ext (by kernel_rfl) (by kernel_rfl) ?_
        repeat (go_big_quiet_step ((go_at_call 72; exact quiet_ext (rentry_any x1 y1 y2 0 z1 true _))))
        refine wpQuiet_nil ?_
        rintro _ ⟨r4, rfl⟩
        go_wp2_with fail
        first
          | exact bodyPost_ret (v := .tuple #[.agg #[.int .i64 0, .int .i64 0, .int .u32 0, .int .u32 0, .int .i64 0, .bool false], .bool false]) (by simp [results, Tryd.results66, go_sem]) rfl ⟨rfl, by (show Ext _ _; repeat (first | with_reducible (refine Hid.out ?_; assumption) | with_reducible exact Ext.refl _ | with_reducible refine Ext.ext ?_ _ | with_reducible refine Ext.alloc ?_ _ | with_reducible refine Ext.drew ?_ | with_reducible refine Ext.setCell ?_ (by (try dsimp only); first | omega | (simp; done) | (simp; omega)) _))⟩
          | (have h9 := of_decide_eq_true H2.out
             simp only [Prod.mk.injEq, true_and] at h9
             subst h9
             exact bodyPost_ret (v := .tuple #[.agg #[.int .i64 x1, .int .i64 y1, .int .u32 y2, .int .u32 0, .int .i64 z1, .bool true], .bool true]) (by simp [results, Tryd.results66, go_sem]) rfl ⟨rfl, by (show Ext _ _; repeat (first | with_reducible (refine Hid.out ?_; assumption) | with_reducible exact Ext.refl _ | with_reducible refine Ext.ext ?_ _ | with_reducible refine Ext.alloc ?_ _ | with_reducible refine Ext.drew ?_ | with_reducible refine Ext.setCell ?_ (by (try dsimp only); first | omega | (simp; done) | (simp; omega)) _))⟩)
    · have hbq : ((0 : Int) == (1 : Int)) = false := by simp
      rw [hbq] at HU ⊢
      have HU2 := hid (show unpackB (x1, 0, x3) (y1, y2, y3) (z1, z2, z3) = (wdB (x1, 0, 0) (x1, 0, x3) && wdB (y1, y2, 0) (y1, y2, y3) && wdB (z1, 0, 0) (z1, z2, z3)) from HU.out)
      clear HU
      cases h1 : wdB (x1, 0, 0) (x1, 0, x3) <;> cases h2 : wdB (y1, y2, 0) (y1, y2, y3) <;> cases h3 : wdB (z1, 0, 0) (z1, z2, z3)
      all_goals
        have HV := HU2.out
        have H2 := hid h2
        rw [h1, h2, h3] at HV
        rw [HV]
        clear HV HU2
        simp only [Bool.and_true, Bool.and_false, Bool.false_eq_true, if_true, if_false]
        go_enter Tryd.func66, Tryd.ntmps66
        go_wp2_with fail
        refine region_ext (by kernel_rfl) (by kernel_rfl) ?_
        repeat (go_big_quiet_step ((go_at_call 72; exact quiet_ext (rentry_any x1 y1 y2 0 z1 false _))))
        refine wpQuiet_nil ?_
        rintro _ ⟨r4, rfl⟩
        go_wp2_with fail
        first
          | exact bodyPost_ret (v := .tuple #[.agg #[.int .i64 0, .int .i64 0, .int .u32 0, .int .u32 0, .int .i64 0, .bool false], .bool false]) (by simp [results, Tryd.results66, go_sem]) rfl ⟨rfl, by (show Ext _ _; repeat (first | with_reducible (refine Hid.out ?_; assumption) | with_reducible exact Ext.refl _ | with_reducible refine Ext.ext ?_ _ | with_reducible refine Ext.alloc ?_ _ | with_reducible refine Ext.drew ?_ | with_reducible refine Ext.setCell ?_ (by (try dsimp only); first | omega | (simp; done) | (simp; omega)) _))⟩
          | (have h9 := of_decide_eq_true H2.out
             simp only [Prod.mk.injEq, true_and] at h9
             subst h9
             exact bodyPost_ret (v := .tuple #[.agg #[.int .i64 x1, .int .i64 y1, .int .u32 y2, .int .u32 0, .int .i64 z1, .bool false], .bool true]) (by simp [results, Tryd.results66, go_sem]) rfl ⟨rfl, by (show Ext _ _; repeat (first | with_reducible (refine Hid.out ?_; assumption) | with_reducible exact Ext.refl _ | with_reducible refine Ext.ext ?_ _ | with_reducible refine Ext.alloc ?_ _ | with_reducible refine Ext.drew ?_ | with_reducible refine Ext.setCell ?_ (by (try dsimp only); first | omega | (simp; done) | (simp; omega)) _))⟩)

end Go.Proofs.YtfijnpfhffhffaaDoor
