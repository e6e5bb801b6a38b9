/- Walks of the reference of layer 24: Asked, Happened. -/
import Derived.Test.YtlijgheghodfeaaDoorDetC
namespace Go.Proofs.YtlijgheghodfeaaDoor
set_option linter.unusedSimpArgs false
set_option linter.unusedVariables false
open Go.RowKit

set_option maxRecDepth 100000 in
set_option maxHeartbeats 2000000 in
theorem rasked_any (x y z : Wd) (w : World) :
    Calls Tryd.prog 20 #[.agg #[.int .i64 x.1, .int .u32 x.2.1, .int .u32 x.2.2, .int .i64 y.1, .int .u32 y.2.1, .int .u32 y.2.2, .int .i64 z.1, .int .u32 z.2.1, .int .u32 z.2.2]] w fun e w' => AskPost w (askV x.1 y.1 z.1) e w' := by
  obtain ⟨x1, x2, x3⟩ := x
  obtain ⟨y1, y2, y3⟩ := y
  obtain ⟨z1, z2, z3⟩ := z
  dsimp only
  obtain ⟨q, hq⟩ : ∃ q, q = askV x1 y1 z1 := ⟨_, rfl⟩
  rw [← hq]
  have HQ := hid hq
  clear hq
  by_cases hb : x1 < 0 ∨ z1 < 0 ∨ 255 < z1
  · have HR := hid (show q = (0, (0, 0), 5) by rw [HQ.out]; unfold askV; rw [if_pos hb])
    have hcs : x1 < 0 ∨ (¬ x1 < 0 ∧ z1 < 0) ∨ (¬ x1 < 0 ∧ ¬ z1 < 0 ∧ 255 < z1) := by omega
    clear hb HQ
    rcases hcs with h5 | ⟨h5, h6⟩ | ⟨h5, h6, h7⟩
    all_goals
      go_enter Tryd.func20, Tryd.ntmps20
      (repeat (first | go_values | go_skip | go_guarded | go_step | go_upon | (simp only [Int.not_lt, Int.not_le] at *; go_simp) | (go_ite <;> go_prune <;> (try go_simp))))
      exact bodyPost_ret (v := .tuple #[.int .i64 0, .agg #[.int .i64 0, .int .i64 0], .int .i64 5]) (by simp [results, Tryd.results20, go_sem]) rfl (AskPost.mk HR.out (by (show Ext _ _; repeat (first | with_reducible (refine Hid.out ?_; assumption) | with_reducible exact Ext.refl _ | with_reducible refine Ext.ext ?_ _ | with_reducible refine Ext.alloc ?_ _ | with_reducible refine Ext.drew ?_ | with_reducible refine Ext.setCell ?_ (by (try dsimp only); first | omega | (simp; done) | (simp; omega)) _))))
  · have HR := hid (show q = (x1, (z1, y1), 0) by rw [HQ.out]; unfold askV; rw [if_neg hb])
    have h5 : ¬ x1 < 0 := by omega
    have h6 : ¬ z1 < 0 := by omega
    have h7 : ¬ 255 < z1 := by omega
    clear hb HQ
    go_enter Tryd.func20, Tryd.ntmps20
    go_wp2_with fail
    refine wp_region_held_drew (S := fun w' => (w'.cell? ⟨w.heap.size, 0, none⟩ = some (.int .i64 x1) ∧ w'.cell? ⟨w.heap.size, 3, none⟩ = some (.int .i64 y1) ∧ w'.cell? ⟨w.heap.size, 6, none⟩ = some (.int .i64 z1))) (by kernel_rfl) (by exact ⟨by simp [go_sem], by simp [go_sem], by simp [go_sem]⟩) (fun hHeld => ?_)
    refine take_met 0 (oi := ⟨_, _, _, _, _, _⟩) (v := ?_) (by kernel_rfl) rfl (by rfl) (fun _ _ _ h => h) (by assumption) ?_ ?_
    rotate_left 1
    · intro w hSw
      try dsimp only at hSw
      go_simp
      try with_reducible rfl
    (try simp only [Act.put, List.setIfInBounds_toArray, List.set_cons_zero, List.set_cons_succ])
    refine take_met 1 (oi := ⟨_, _, _, _, _, _⟩) (v := ?_) (by kernel_rfl) rfl (by rfl) (fun _ _ _ h => h) (by assumption) ?_ ?_
    rotate_left 1
    · intro w hSw
      try dsimp only at hSw
      go_simp
      try with_reducible rfl
    (try simp only [Act.put, List.setIfInBounds_toArray, List.set_cons_zero, List.set_cons_succ])
    refine take_met 2 (oi := ⟨_, _, _, _, _, _⟩) (v := ?_) (by kernel_rfl) rfl (by rfl) (fun _ _ _ h => h) (by assumption) ?_ ?_
    rotate_left 1
    · intro w hSw
      try dsimp only at hSw
      go_simp
      try with_reducible rfl
    (try simp only [Act.put, List.setIfInBounds_toArray, List.set_cons_zero, List.set_cons_succ])
    refine take_met 3 (oi := ⟨_, _, _, _, _, _⟩) (v := ?_) (by kernel_rfl) rfl (by rfl) (fun _ _ _ h => h) (by assumption) ?_ ?_
    rotate_left 1
    · intro w hSw
      try dsimp only at hSw
      go_simp
      try with_reducible rfl
    (try simp only [Act.put, List.setIfInBounds_toArray, List.set_cons_zero, List.set_cons_succ])
    refine take_met 4 (oi := ⟨_, _, _, _, _, _⟩) (v := ?_) (by kernel_rfl) rfl (by rfl) (fun _ _ _ h => h) (by assumption) ?_ ?_
    rotate_left 1
    · intro w hSw
      try dsimp only at hSw
      go_simp
      try with_reducible rfl
    (try simp only [Act.put, List.setIfInBounds_toArray, List.set_cons_zero, List.set_cons_succ])
    refine take_met 5 (oi := ⟨_, _, _, _, _, _⟩) (v := ?_) (by kernel_rfl) rfl (by rfl) (fun _ _ _ h => h) (by assumption) ?_ ?_
    rotate_left 1
    · intro w hSw
      try dsimp only at hSw
      go_simp
      try with_reducible rfl
    (try simp only [Act.put, List.setIfInBounds_toArray, List.set_cons_zero, List.set_cons_succ])
    refine take_met 6 (oi := ⟨_, _, _, _, _, _⟩) (v := ?_) (by kernel_rfl) rfl (by rfl) (fun _ _ _ h => h) (by assumption) ?_ ?_
    rotate_left 1
    · intro w hSw
      try dsimp only at hSw
      go_simp
      try with_reducible rfl
    (try simp only [Act.put, List.setIfInBounds_toArray, List.set_cons_zero, List.set_cons_succ])
    refine take_met 7 (oi := ⟨_, _, _, _, _, _⟩) (v := ?_) (by kernel_rfl) rfl (by rfl) (fun _ _ _ h => h) (by assumption) ?_ ?_
    rotate_left 1
    · intro w hSw
      try dsimp only at hSw
      go_simp
      try with_reducible rfl
    (try simp only [Act.put, List.setIfInBounds_toArray, List.set_cons_zero, List.set_cons_succ])
    refine take_met 8 (oi := ⟨_, _, _, _, _, _⟩) (v := ?_) (by kernel_rfl) rfl (by rfl) (fun _ _ _ h => h) (by assumption) ?_ ?_
    rotate_left 1
    · intro w hSw
      try dsimp only at hSw
      go_simp
      try with_reducible rfl
    (try simp only [Act.put, List.setIfInBounds_toArray, List.set_cons_zero, List.set_cons_succ])
    refine take_met 9 (oi := ⟨_, _, _, _, _, _⟩) (v := ?_) (by kernel_rfl) rfl (by rfl) (fun _ _ _ h => h) (by assumption) ?_ ?_
    rotate_left 1
    · intro w hSw
      try dsimp only at hSw
      go_simp
      try with_reducible rfl
    (try simp only [Act.put, List.setIfInBounds_toArray, List.set_cons_zero, List.set_cons_succ])
    refine take_met 10 (oi := ⟨_, _, _, _, _, _⟩) (v := ?_) (by kernel_rfl) rfl (by rfl) (fun _ _ _ h => h) (by assumption) ?_ ?_
    rotate_left 1
    · intro w hSw
      try dsimp only at hSw
      go_simp
      try with_reducible rfl
    (try simp only [Act.put, List.setIfInBounds_toArray, List.set_cons_zero, List.set_cons_succ])
    refine take_only 11 (oi := ⟨_, _, _, _, _, _⟩) (by kernel_rfl) rfl (fun K hK => ?_)
    go_simp
    have hOld := hHeld
    clear hHeld
    refine hK.out _ _ (by exact ⟨by simp [go_sem], by simp [go_sem], by simp [go_sem]⟩) (fun hHeld => ?_)
    clear hOld hK K
    (try simp only [Act.put, List.setIfInBounds_toArray, List.set_cons_zero, List.set_cons_succ])
    refine take_met 12 (oi := ⟨_, _, _, _, _, _⟩) (v := ?_) (by kernel_rfl) rfl (by rfl) (fun _ _ _ h => h) (by assumption) ?_ ?_
    rotate_left 1
    · intro w hSw
      try dsimp only at hSw
      go_simp
      try with_reducible rfl
    (try simp only [Act.put, List.setIfInBounds_toArray, List.set_cons_zero, List.set_cons_succ])
    refine wpAnyH_done (by kernel_rfl) ?_ _
    (repeat (first | go_values | go_skip | go_guarded | go_step | go_upon | (simp only [Int.not_lt, Int.not_le] at *; go_simp) | (go_ite <;> go_prune <;> (try go_simp))))
    exact bodyPost_ret (v := .tuple #[.int .i64 x1, .agg #[.int .i64 z1, .int .i64 y1], .int .i64 0]) (by simp [results, Tryd.results20, go_sem]) rfl (AskPost.mk HR.out (by (show Ext _ _; repeat (first | with_reducible (refine Hid.out ?_; assumption) | with_reducible exact Ext.refl _ | with_reducible refine Ext.ext ?_ _ | with_reducible refine Ext.alloc ?_ _ | with_reducible refine Ext.drew ?_ | with_reducible refine Ext.setCell ?_ (by (try dsimp only); first | omega | (simp; done) | (simp; omega)) _))))

set_option maxRecDepth 100000 in
set_option maxHeartbeats 2000000 in
theorem rhap_any (x y z : Wd) (n : Int) (w : World) :
    Calls Tryd.prog 21 #[.agg #[.int .i64 x.1, .int .u32 x.2.1, .int .u32 x.2.2, .int .i64 y.1, .int .u32 y.2.1, .int .u32 y.2.2, .int .i64 z.1, .int .u32 z.2.1, .int .u32 z.2.2], .int .i64 n] w fun e w' =>
      e = .returned (.tuple #[.agg #[.int .i64 (hapV (askV x.1 y.1 z.1) n).1.1, .int .i64 (hapV (askV x.1 y.1 z.1) n).1.2], .bool (hapV (askV x.1 y.1 z.1) n).2.1, .int .i64 (hapV (askV x.1 y.1 z.1) n).2.2]) ∧ ∃ r, w' = ext w r := by
  obtain ⟨⟨q1, ⟨q2, q3⟩, q4⟩, hq⟩ : ∃ q, q = askV x.1 y.1 z.1 := ⟨_, rfl⟩
  have HQ := hid hq
  rw [← hq]
  obtain ⟨R, hR⟩ : ∃ R, R = hapV (q1, (q2, q3), q4) n := ⟨_, rfl⟩
  rw [← hR]
  have HR0 := hid hR
  clear hq hR
  go_enter Tryd.func21, Tryd.ntmps21
  go_wp2_with fail
  refine (rasked_any x y z _).mono ?_
  rintro e w' ⟨rfl, r1, rfl⟩
  rw [← HQ.out]
  dsimp only
  by_cases h1 : q4 = 0
  rotate_left
  · have HR := hid (show R = ((0, 0), false, q4) by rw [HR0.out]; unfold hapV; rw [if_pos h1])
    have hb : (q4 != 0) = true := by simpa using h1
    clear h1 HR0
    (repeat (first | go_values | go_skip | go_guarded | go_step | go_upon | (simp only [Int.not_lt, Int.not_le] at *; go_simp) | (go_ite <;> go_prune <;> (try go_simp))))
    exact bodyPost_ret (v := .tuple #[.agg #[.int .i64 0, .int .i64 0], .bool false, .int .i64 q4]) (by simp [results, Tryd.results21, go_sem]) rfl ⟨by rw [HR.out], by (show Ext _ _; repeat (first | with_reducible (refine Hid.out ?_; assumption) | with_reducible exact Ext.refl _ | with_reducible refine Ext.ext ?_ _ | with_reducible refine Ext.alloc ?_ _ | with_reducible refine Ext.drew ?_ | with_reducible refine Ext.setCell ?_ (by (try dsimp only); first | omega | (simp; done) | (simp; omega)) _))⟩
  subst h1
  have HR1 := hid (show R = if n < 1 then ((0, 0), false, 4) else if n < q1 then ((0, 0), false, 13) else if q1 < n then ((0, 0), false, 0) else ((q2, q3), true, 0) by rw [HR0.out]; rfl)
  clear HR0
  have hcs : (n < 1 ∧ R = ((0, 0), false, 4)) ∨ (¬ n < 1 ∧ n < q1 ∧ R = ((0, 0), false, 13)) ∨ (¬ n < 1 ∧ ¬ n < q1 ∧ (q1 == n) = false ∧ R = ((0, 0), false, 0)) ∨ (¬ n < 1 ∧ ¬ n < q1 ∧ (q1 == n) = true ∧ R = ((q2, q3), true, 0)) := by
    by_cases h1 : n < 1
    · exact .inl ⟨h1, by rw [HR1.out, if_pos h1]⟩
    by_cases h2 : n < q1
    · exact .inr (.inl ⟨h1, h2, by rw [HR1.out, if_neg h1, if_pos h2]⟩)
    by_cases h3 : q1 < n
    · exact .inr (.inr (.inl ⟨h1, h2, by simp; omega, by rw [HR1.out, if_neg h1, if_neg h2, if_pos h3]⟩))
    · exact .inr (.inr (.inr ⟨h1, h2, by simp; omega, by rw [HR1.out, if_neg h1, if_neg h2, if_neg h3]⟩))
  clear HR1
  rcases hcs with ⟨h1, hR⟩ | ⟨h1, h2, hR⟩ | ⟨h1, h2, h3, hR⟩ | ⟨h1, h2, h3, hR⟩
  · have HR := hid hR
    clear hR
    (repeat (first | go_values | go_skip | go_guarded | go_step | go_upon | (simp only [Int.not_lt, Int.not_le] at *; go_simp) | (go_ite <;> go_prune <;> (try go_simp))))
    exact bodyPost_ret (v := .tuple #[.agg #[.int .i64 0, .int .i64 0], .bool false, .int .i64 4]) (by simp [results, Tryd.results21, go_sem]) rfl ⟨by rw [HR.out], by (show Ext _ _; repeat (first | with_reducible (refine Hid.out ?_; assumption) | with_reducible exact Ext.refl _ | with_reducible refine Ext.ext ?_ _ | with_reducible refine Ext.alloc ?_ _ | with_reducible refine Ext.drew ?_ | with_reducible refine Ext.setCell ?_ (by (try dsimp only); first | omega | (simp; done) | (simp; omega)) _))⟩
  · have HR := hid hR
    clear hR
    (repeat (first | go_values | go_skip | go_guarded | go_step | go_upon | (simp only [Int.not_lt, Int.not_le] at *; go_simp) | (go_ite <;> go_prune <;> (try go_simp))))
    exact bodyPost_ret (v := .tuple #[.agg #[.int .i64 0, .int .i64 0], .bool false, .int .i64 13]) (by simp [results, Tryd.results21, go_sem]) rfl ⟨by rw [HR.out], by (show Ext _ _; repeat (first | with_reducible (refine Hid.out ?_; assumption) | with_reducible exact Ext.refl _ | with_reducible refine Ext.ext ?_ _ | with_reducible refine Ext.alloc ?_ _ | with_reducible refine Ext.drew ?_ | with_reducible refine Ext.setCell ?_ (by (try dsimp only); first | omega | (simp; done) | (simp; omega)) _))⟩
  · have HR := hid hR
    clear hR
    (repeat (first | go_values | go_skip | go_guarded | go_step | go_upon | (simp only [Int.not_lt, Int.not_le] at *; go_simp) | (go_ite <;> go_prune <;> (try go_simp))))
    exact bodyPost_ret (v := .tuple #[.agg #[.int .i64 0, .int .i64 0], .bool false, .int .i64 0]) (by simp [results, Tryd.results21, go_sem]) rfl ⟨by rw [HR.out], by (show Ext _ _; repeat (first | with_reducible (refine Hid.out ?_; assumption) | with_reducible exact Ext.refl _ | with_reducible refine Ext.ext ?_ _ | with_reducible refine Ext.alloc ?_ _ | with_reducible refine Ext.drew ?_ | with_reducible refine Ext.setCell ?_ (by (try dsimp only); first | omega | (simp; done) | (simp; omega)) _))⟩
  · have HR := hid hR
    clear hR
    (repeat (first | go_values | go_skip | go_guarded | go_step | go_upon | (simp only [Int.not_lt, Int.not_le] at *; go_simp) | (go_ite <;> go_prune <;> (try go_simp))))
    exact bodyPost_ret (v := .tuple #[.agg #[.int .i64 q2, .int .i64 q3], .bool true, .int .i64 0]) (by simp [results, Tryd.results21, go_sem]) rfl ⟨by rw [HR.out], by (show Ext _ _; repeat (first | with_reducible (refine Hid.out ?_; assumption) | with_reducible exact Ext.refl _ | with_reducible refine Ext.ext ?_ _ | with_reducible refine Ext.alloc ?_ _ | with_reducible refine Ext.drew ?_ | with_reducible refine Ext.setCell ?_ (by (try dsimp only); first | omega | (simp; done) | (simp; omega)) _))⟩

end Go.Proofs.YtlijgheghodfeaaDoor
