/- The clock (simulcast/clock): the code of a Now or a Tick. -/
import Derived.Test.YtadilekaombofaaDoorPk16
namespace Go.Proofs.YtadilekaombofaaDoor
set_option linter.unusedSimpArgs false
set_option linter.unusedVariables false
open Go.RowKit Go.Maps
structure Ck where
 at_ : Int
 tick : Bool
 st : Int
 tm : Int
abbrev ckL (c : Ck) : List Value := [.int .i64 c.at_, .bool c.tick, .int .i64 c.st, .int .i64 c.tm]
abbrev ckT : TypeId := 85
def ckNext (c : Ck) (g : Gt) : Ck × A8 × Bool :=
 if c.st = 3 then (c, a8Z, true)
 else if c.st = 0 then (⟨c.at_, c.tick, 1, c.tm⟩, ⟨5, c.at_, (0, 0, 0), (0, 0, 0)⟩, false)
 else if c.tick = false then (⟨c.at_, c.tick, 3, g.1.1⟩, a8Z, true)
 else if c.st = 2 ∧ g.2 = true then (⟨c.at_, c.tick, 3, wrap64 (g.1.1 + 1)⟩, a8Z, true)
 else (⟨c.at_, c.tick, 2, c.tm⟩, ⟨6, c.at_, g.1, (wrap64 (g.1.1 + 1), g.1.2.1, g.1.2.2)⟩, false)
theorem ckdone_any (a s t0 : Int) (tk : Bool) (t : Int) (w : World) : Calls Tryd.prog 115 #[.agg #[.int .i64 a, .bool tk, .int .i64 s, .int .i64 t0], .int .i64 t] w fun e w' => e = .returned (.tuple #[.iface ckT (.agg #[.int .i64 a, .bool tk, .int .i64 3, .int .i64 t]), .agg (a8E a8Z).toArray, .bool true]) ∧ ∃ r, w' = ext w r := by
 go_enter Tryd.func115, Tryd.ntmps115
 (repeat (first | go_values | go_skip | go_guarded | go_step | go_upon | (simp only [Int.not_lt, Int.not_le] at *; go_simp) | (go_ite <;> go_prune <;> (try go_simp))))
 exact bodyPost_ret (v := .tuple #[.iface ckT (.agg #[.int .i64 a, .bool tk, .int .i64 3, .int .i64 t]), .agg (a8E a8Z).toArray, .bool true]) (by simp [results, Tryd.results115, go_sem, ckT, a8E, a8Z]) rfl ⟨rfl, by (show Ext _ _; repeat first | (with_reducible first | (refine xH ?_; assumption) | exact xR _ | refine xX ?_ _ | refine xA ?_ _) | refine xD ?_ | refine xN ?_ _ | exact xR _)⟩
set_option maxHeartbeats 1000000 in
theorem ckn_over (a t0 : Int) (tk : Bool) (g1 g2 g3 : Int) (ok : Bool) (w : World) : Calls Tryd.prog 114 #[.agg #[.int .i64 a, .bool tk, .int .i64 3, .int .i64 t0], .agg #[.int .i64 g1, .int .u32 g2, .int .u32 g3, .bool ok]] w fun e w' => e = .returned (.tuple #[.iface ckT (.agg #[.int .i64 a, .bool tk, .int .i64 3, .int .i64 t0]), .agg (a8E a8Z).toArray, .bool true]) ∧ ∃ r, w' = ext w r := by
 go_enter Tryd.func114, Tryd.ntmps114
 (repeat (first | go_values | go_skip | go_guarded | go_step | go_upon | (simp only [Int.not_lt, Int.not_le] at *; go_simp) | (go_ite <;> go_prune <;> (try go_simp))))
 exact bodyPost_ret (v := .tuple #[.iface ckT (.agg #[.int .i64 a, .bool tk, .int .i64 3, .int .i64 t0]), .agg (a8E a8Z).toArray, .bool true]) (by simp [results, Tryd.results114, go_sem, ckT, a8E, a8Z]) rfl ⟨rfl, by (show Ext _ _; repeat first | (with_reducible first | (refine xH ?_; assumption) | exact xR _ | refine xX ?_ _ | refine xA ?_ _) | refine xD ?_ | refine xN ?_ _ | exact xR _)⟩
set_option maxHeartbeats 1000000 in
theorem ckn_now (a s t0 : Int) (hs : ¬ s = 3 ∧ ¬ s = 0) (g1 g2 g3 : Int) (ok : Bool) (w : World) : Calls Tryd.prog 114 #[.agg #[.int .i64 a, .bool false, .int .i64 s, .int .i64 t0], .agg #[.int .i64 g1, .int .u32 g2, .int .u32 g3, .bool ok]] w fun e w' => e = .returned (.tuple #[.iface ckT (.agg #[.int .i64 a, .bool false, .int .i64 3, .int .i64 g1]), .agg (a8E a8Z).toArray, .bool true]) ∧ ∃ r, w' = ext w r := by
 obtain ⟨h1, h2⟩ := hs
 go_enter Tryd.func114, Tryd.ntmps114
 go_wp2_with (go_call (ckdone_any a s t0 false g1 _) as e w' ⟨rfl, r1, rfl⟩)
 (repeat (first | go_values | go_skip | go_guarded | go_step | go_upon | (simp only [Int.not_lt, Int.not_le] at *; go_simp) | (go_ite <;> go_prune <;> (try go_simp))))
 exact bodyPost_ret (v := .tuple #[.iface ckT (.agg #[.int .i64 a, .bool false, .int .i64 3, .int .i64 g1]), .agg (a8E a8Z).toArray, .bool true]) (by simp [results, Tryd.results114, go_sem, ckT, a8E, a8Z]) rfl ⟨rfl, by (show Ext _ _; repeat with_reducible first | (refine xH ?_; assumption) | exact xR _ | refine xX ?_ _ | refine xA ?_ _ | refine xD ?_ | refine xS ?_ (by (try dsimp only); first | omega | (simp; done) | (simp; omega)) _)⟩
set_option maxHeartbeats 1000000 in
theorem ckn_met (a t0 : Int) (g1 g2 g3 : Int) (w : World) : Calls Tryd.prog 114 #[.agg #[.int .i64 a, .bool true, .int .i64 2, .int .i64 t0], .agg #[.int .i64 g1, .int .u32 g2, .int .u32 g3, .bool true]] w fun e w' => e = .returned (.tuple #[.iface ckT (.agg #[.int .i64 a, .bool true, .int .i64 3, .int .i64 (wrap64 (g1 + 1))]), .agg (a8E a8Z).toArray, .bool true]) ∧ ∃ r, w' = ext w r := by
 go_enter Tryd.func114, Tryd.ntmps114
 go_wp2_with (go_call (ckdone_any a 2 t0 true (wrap64 (g1 + 1)) _) as e w' ⟨rfl, r1, rfl⟩)
 (repeat (first | go_values | go_skip | go_guarded | go_step | go_upon | (simp only [Int.not_lt, Int.not_le] at *; go_simp) | (go_ite <;> go_prune <;> (try go_simp))))
 exact bodyPost_ret (v := .tuple #[.iface ckT (.agg #[.int .i64 a, .bool true, .int .i64 3, .int .i64 (wrap64 (g1 + 1))]), .agg (a8E a8Z).toArray, .bool true]) (by simp [results, Tryd.results114, go_sem, ckT, a8E, a8Z]) rfl ⟨rfl, by (show Ext _ _; repeat with_reducible first | (refine xH ?_; assumption) | exact xR _ | refine xX ?_ _ | refine xA ?_ _ | refine xD ?_ | refine xS ?_ (by (try dsimp only); first | omega | (simp; done) | (simp; omega)) _)⟩
set_option maxHeartbeats 1000000 in
theorem ckn_begun (a t0 : Int) (tk : Bool) (g1 g2 g3 : Int) (ok : Bool) (w : World) : Calls Tryd.prog 114 #[.agg #[.int .i64 a, .bool tk, .int .i64 0, .int .i64 t0], .agg #[.int .i64 g1, .int .u32 g2, .int .u32 g3, .bool ok]] w fun e w' => e = .returned (.tuple #[.iface ckT (.agg #[.int .i64 a, .bool tk, .int .i64 1, .int .i64 t0]), .agg (a8E ⟨5, a, (0, 0, 0), (0, 0, 0)⟩).toArray, .bool false]) ∧ ∃ r, w' = ext w r := by
 go_enter Tryd.func114, Tryd.ntmps114
 go_upto_region 5 with fail
 generalize hW : World.alloc _ _ = W
 have HEW := hid (show Ext w W by rw [← hW]; (show Ext _ _; repeat first | (with_reducible first | (refine xH ?_; assumption) | exact xR _ | refine xX ?_ _ | refine xA ?_ _) | refine xD ?_ | refine xN ?_ _ | exact xR _))
 have HB2 := hid (show Blk W w.heap.size [.int .i64 a, .bool tk, .int .i64 1, .int .i64 t0] by rw [← hW]; (show Blk _ _ _; repeat first | (with_reducible first | (refine xH ?_; assumption) | refine bD ?_ | refine bX ?_ _) | (with_reducible refine bN _ _ rfl ?_; first | with_reducible rfl | (simp; done)) | (with_reducible first | refine bA ?_ _ | assumption | apply bS) | (with_reducible refine bO ?_ ?_; first | omega | (simp; omega)) | (show List.set _ _ _ = _; exact rfl) | (show _ < List.length _; simp; done)))
 have HB5 := hid (show Blk W (w.heap.size + 1 + 1) [.int .i64 0, .int .i64 0, .int .i64 0, .int .u32 0, .int .u32 0, .int .i64 0, .int .u32 0, .int .u32 0] by rw [← hW]; (show Blk _ _ _; repeat first | (with_reducible first | (refine xH ?_; assumption) | refine bD ?_ | refine bX ?_ _) | (with_reducible refine bN _ _ rfl ?_; first | with_reducible rfl | (simp; done)) | (with_reducible first | refine bA ?_ _ | assumption | apply bS) | (with_reducible refine bO ?_ ?_; first | omega | (simp; omega)) | (show List.set _ _ _ = _; exact rfl) | (show _ < List.length _; simp; done)))
 obtain ⟨n5, hn5⟩ : ∃ g, g = w.heap.size + 1 + 1 := ⟨_, rfl⟩
 rw [← hn5] at HB5 ⊢
 obtain ⟨n2, hn2⟩ : ∃ g, g = w.heap.size := ⟨_, rfl⟩
 have HN := hid (show w.heap.size ≤ n5 ∧ n5 ≠ n2 ∧ w.heap.size = n2 by omega)
 rw [← hn2] at HB2 ⊢
 clear hW hn2 hn5
 have a0 := HB2.out.2.2 0 _ rfl
 have a1 := HB2.out.2.2 1 _ rfl
 have a2 := HB2.out.2.2 2 _ rfl
 have a3 := HB2.out.2.2 3 _ rfl
 have ag := HB2.out.1
 have d0 := HB5.out.2.2 0 _ rfl
 have d1 := HB5.out.2.2 1 _ rfl
 have d2 := HB5.out.2.2 2 _ rfl
 have d3 := HB5.out.2.2 3 _ rfl
 have d4 := HB5.out.2.2 4 _ rfl
 have d5 := HB5.out.2.2 5 _ rfl
 have d6 := HB5.out.2.2 6 _ rfl
 have d7 := HB5.out.2.2 7 _ rfl
 have df := HB5.out.2.1
 have dg := HB5.out.1
 have HSt := hid (show ∀ w', Grn n5 W w' → (fun w' => w'.cell? ⟨n2, 0, none⟩ = some (.int .i64 a) ∧ w'.cell? ⟨n2, 1, none⟩ = some (.bool tk) ∧ w'.cell? ⟨n2, 2, none⟩ = some (.int .i64 1) ∧ w'.cell? ⟨n2, 3, none⟩ = some (.int .i64 t0) ∧ n2 < w'.heap.size) w' from fun w' G => by
  have h := HB2.out.grn G (by have := HN.out; omega)
  exact ⟨h.2.2 0 _ rfl, h.2.2 1 _ rfl, h.2.2 2 _ rfl, h.2.2 3 _ rfl, h.1⟩)
 refine wp_region_held_drew (S := fun w' => w'.cell? ⟨n2, 0, none⟩ = some (.int .i64 a) ∧ w'.cell? ⟨n2, 1, none⟩ = some (.bool tk) ∧ w'.cell? ⟨n2, 2, none⟩ = some (.int .i64 1) ∧ w'.cell? ⟨n2, 3, none⟩ = some (.int .i64 t0) ∧ n2 < w'.heap.size) (by kernel_rfl) (by exact HSt.out _ (by (show Grn _ _ _; repeat (first | with_reducible exact Grn.refl | with_reducible refine Grn.setCell ?_ _ _ | with_reducible refine Grn.ext ?_ _ | with_reducible refine Grn.alloc ?_ _ | with_reducible refine Grn.drew ?_)))) (fun hHeld => ?_)
 refine take_met 0 (oi := ⟨_, _, _, _, _, _⟩) (v := ?_) (by kernel_rfl) rfl (by rfl) (fun _ _ _ h => h) (by assumption) ?_ ?_
 rotate_left 1
 ·intro w hSw
  try dsimp only at hSw
  go_simp
  try with_reducible rfl
 (try simp only [Act.put, pA, pB, pC])
 refine take_met 1 (oi := ⟨_, _, _, _, _, _⟩) (v := ?_) (by kernel_rfl) rfl (by rfl) (fun _ _ _ h => h) (by assumption) ?_ ?_
 rotate_left 1
 ·intro w hSw
  try dsimp only at hSw
  go_simp
  try with_reducible rfl
 (try simp only [Act.put, pA, pB, pC])
 refine take_met 2 (oi := ⟨_, _, _, _, _, _⟩) (v := ?_) (by kernel_rfl) rfl (by rfl) (fun _ _ _ h => h) (by assumption) ?_ ?_
 rotate_left 1
 ·intro w hSw
  try dsimp only at hSw
  go_simp
  try with_reducible rfl
 (try simp only [Act.put, pA, pB, pC])
 refine take_met 3 (oi := ⟨_, _, _, _, _, _⟩) (v := ?_) (by kernel_rfl) rfl (by rfl) (fun _ _ _ h => h) (by assumption) ?_ ?_
 rotate_left 1
 ·intro w hSw
  try dsimp only at hSw
  go_simp
  try with_reducible rfl
 (try simp only [Act.put, pA, pB, pC])
 refine take_met 4 (oi := ⟨_, _, _, _, _, _⟩) (v := ?_) (by kernel_rfl) rfl (by rfl) (fun _ _ _ h => h) (by assumption) ?_ ?_
 rotate_left 1
 ·intro w hSw
  try dsimp only at hSw
  go_simp
  try with_reducible rfl
 (try simp only [Act.put, pA, pB, pC])
 refine take_met 5 (oi := ⟨_, _, _, _, _, _⟩) (v := ?_) (by kernel_rfl) rfl (by rfl) (fun _ _ _ h => h) (by assumption) ?_ ?_
 rotate_left 1
 ·intro w hSw
  try dsimp only at hSw
  go_simp
  try with_reducible rfl
 (try simp only [Act.put, pA, pB, pC])
 refine take_only 6 (oi := ⟨_, _, _, _, _, _⟩) (by kernel_rfl) rfl (fun K hK => ?_)
 go_simp
 have hOld := hHeld
 clear hHeld
 refine hK.out _ _ (by exact HSt.out _ (by (show Grn _ _ _; repeat (first | with_reducible exact Grn.refl | with_reducible refine Grn.setCell ?_ _ _ | with_reducible refine Grn.ext ?_ _ | with_reducible refine Grn.alloc ?_ _ | with_reducible refine Grn.drew ?_)))) (fun hHeld => ?_)
 clear hOld hK K
 (try simp only [Act.put, pA, pB, pC])
 refine take_met 7 (oi := ⟨_, _, _, _, _, _⟩) (v := ?_) (by kernel_rfl) rfl (by rfl) (fun _ _ _ h => h) (by assumption) ?_ ?_
 rotate_left 1
 ·intro w hSw
  try dsimp only at hSw
  go_simp
  try with_reducible rfl
 (try simp only [Act.put, pA, pB, pC])
 refine wpAnyH_done (by kernel_rfl) ?_ _
 clear hHeld
 have hgn := HN.out.1
 (repeat (first | go_values | go_skip | go_guarded | go_step | go_upon | (simp only [Int.not_lt, Int.not_le] at *; go_simp) | (go_ite <;> go_prune <;> (try go_simp))))
 exact bodyPost_ret (v := .tuple #[.iface ckT (.agg #[.int .i64 a, .bool tk, .int .i64 1, .int .i64 t0]), .agg (a8E ⟨5, a, (0, 0, 0), (0, 0, 0)⟩).toArray, .bool false]) (by simp [results, Tryd.results114, go_sem, ckT, a8E, d0, d1, d2, d3, d4, d5, d6, d7, df, dg]) rfl ⟨rfl, by (show Ext _ _; repeat with_reducible first | (refine xH ?_; assumption) | exact xR _ | refine xX ?_ _ | refine xA ?_ _ | refine xD ?_ | refine xS ?_ (by (try dsimp only); first | omega | (simp; done) | (simp; omega)) _)⟩
set_option maxHeartbeats 1000000 in
theorem ckn_swap1 (a t0 : Int) (g1 g2 g3 : Int) (ok : Bool) (w : World) : Calls Tryd.prog 114 #[.agg #[.int .i64 a, .bool true, .int .i64 1, .int .i64 t0], .agg #[.int .i64 g1, .int .u32 g2, .int .u32 g3, .bool ok]] w fun e w' => e = .returned (.tuple #[.iface ckT (.agg #[.int .i64 a, .bool true, .int .i64 2, .int .i64 t0]), .agg (a8E ⟨6, a, (g1, g2, g3), (wrap64 (g1 + 1), g2, g3)⟩).toArray, .bool false]) ∧ ∃ r, w' = ext w r := by
 go_enter Tryd.func114, Tryd.ntmps114
 go_upto_region 13 with fail
 generalize hW : World.alloc _ _ = W
 have HEW := hid (show Ext w W by rw [← hW]; (show Ext _ _; repeat first | (with_reducible first | (refine xH ?_; assumption) | exact xR _ | refine xX ?_ _ | refine xA ?_ _) | refine xD ?_ | refine xN ?_ _ | exact xR _))
 have HB2 := hid (show Blk W w.heap.size [.int .i64 a, .bool true, .int .i64 2, .int .i64 t0] by rw [← hW]; (show Blk _ _ _; repeat first | (with_reducible first | (refine xH ?_; assumption) | refine bD ?_ | refine bX ?_ _) | (with_reducible refine bN _ _ rfl ?_; first | with_reducible rfl | (simp; done)) | (with_reducible first | refine bA ?_ _ | assumption | apply bS) | (with_reducible refine bO ?_ ?_; first | omega | (simp; omega)) | (show List.set _ _ _ = _; exact rfl) | (show _ < List.length _; simp; done)))
 have HB3 := hid (show Blk W (w.heap.size + 1) [.int .i64 g1, .int .u32 g2, .int .u32 g3, .bool ok] by rw [← hW]; (show Blk _ _ _; repeat first | (with_reducible first | (refine xH ?_; assumption) | refine bD ?_ | refine bX ?_ _) | (with_reducible refine bN _ _ rfl ?_; first | with_reducible rfl | (simp; done)) | (with_reducible first | refine bA ?_ _ | assumption | apply bS) | (with_reducible refine bO ?_ ?_; first | omega | (simp; omega)) | (show List.set _ _ _ = _; exact rfl) | (show _ < List.length _; simp; done)))
 have HB5 := hid (show Blk W (w.heap.size + 1 + 1) [.int .i64 0, .int .i64 0, .int .i64 0, .int .u32 0, .int .u32 0, .int .i64 0, .int .u32 0, .int .u32 0] by rw [← hW]; (show Blk _ _ _; repeat first | (with_reducible first | (refine xH ?_; assumption) | refine bD ?_ | refine bX ?_ _) | (with_reducible refine bN _ _ rfl ?_; first | with_reducible rfl | (simp; done)) | (with_reducible first | refine bA ?_ _ | assumption | apply bS) | (with_reducible refine bO ?_ ?_; first | omega | (simp; omega)) | (show List.set _ _ _ = _; exact rfl) | (show _ < List.length _; simp; done)))
 have HB7 := hid (show Blk W (w.heap.size + 1 + 1 + 1) [.int .i64 (wrap64 (g1 + 1)), .int .u32 g2, .int .u32 g3] by rw [← hW]; (show Blk _ _ _; repeat first | (with_reducible first | (refine xH ?_; assumption) | refine bD ?_ | refine bX ?_ _) | (with_reducible refine bN _ _ rfl ?_; first | with_reducible rfl | (simp; done)) | (with_reducible first | refine bA ?_ _ | assumption | apply bS) | (with_reducible refine bO ?_ ?_; first | omega | (simp; omega)) | (show List.set _ _ _ = _; exact rfl) | (show _ < List.length _; simp; done)))
 obtain ⟨n7, hn7⟩ : ∃ g, g = w.heap.size + 1 + 1 + 1 := ⟨_, rfl⟩
 rw [← hn7] at HB7 ⊢
 obtain ⟨n5, hn5⟩ : ∃ g, g = w.heap.size + 1 + 1 := ⟨_, rfl⟩
 rw [← hn5] at HB5 ⊢
 obtain ⟨n3, hn3⟩ : ∃ g, g = w.heap.size + 1 := ⟨_, rfl⟩
 rw [← hn3] at HB3 ⊢
 obtain ⟨n2, hn2⟩ : ∃ g, g = w.heap.size := ⟨_, rfl⟩
 have HN := hid (show w.heap.size ≤ n5 ∧ n5 ≠ n2 ∧ n5 ≠ n3 ∧ n5 ≠ n7 by omega)
 rw [← hn2] at HB2 ⊢
 clear hW hn2 hn5 hn3 hn7
 have a0 := HB2.out.2.2 0 _ rfl
 have a1 := HB2.out.2.2 1 _ rfl
 have a2 := HB2.out.2.2 2 _ rfl
 have a3 := HB2.out.2.2 3 _ rfl
 have ag := HB2.out.1
 have d0 := HB5.out.2.2 0 _ rfl
 have d1 := HB5.out.2.2 1 _ rfl
 have d2 := HB5.out.2.2 2 _ rfl
 have d3 := HB5.out.2.2 3 _ rfl
 have d4 := HB5.out.2.2 4 _ rfl
 have d5 := HB5.out.2.2 5 _ rfl
 have d6 := HB5.out.2.2 6 _ rfl
 have d7 := HB5.out.2.2 7 _ rfl
 have df := HB5.out.2.1
 have dg := HB5.out.1
 have HSt := hid (show ∀ w', Grn n5 W w' → (fun w' => (w'.cell? ⟨n2, 0, none⟩ = some (.int .i64 a) ∧ w'.cell? ⟨n2, 1, none⟩ = some (.bool true) ∧ w'.cell? ⟨n2, 2, none⟩ = some (.int .i64 2) ∧ w'.cell? ⟨n2, 3, none⟩ = some (.int .i64 t0) ∧ n2 < w'.heap.size) ∧ (w'.cell? ⟨n3, 0, none⟩ = some (.int .i64 g1) ∧ w'.cell? ⟨n3, 1, none⟩ = some (.int .u32 g2) ∧ w'.cell? ⟨n3, 2, none⟩ = some (.int .u32 g3) ∧ n3 < w'.heap.size) ∧ (w'.cell? ⟨n7, 0, none⟩ = some (.int .i64 (wrap64 (g1 + 1))) ∧ w'.cell? ⟨n7, 1, none⟩ = some (.int .u32 g2) ∧ w'.cell? ⟨n7, 2, none⟩ = some (.int .u32 g3) ∧ n7 < w'.heap.size)) w' from fun w' G => by
  have h := HB2.out.grn G (by have := HN.out; omega)
  have k := HB3.out.grn G (by have := HN.out; omega)
  have l := HB7.out.grn G (by have := HN.out; omega)
  exact ⟨⟨h.2.2 0 _ rfl, h.2.2 1 _ rfl, h.2.2 2 _ rfl, h.2.2 3 _ rfl, h.1⟩, ⟨k.2.2 0 _ rfl, k.2.2 1 _ rfl, k.2.2 2 _ rfl, k.1⟩, ⟨l.2.2 0 _ rfl, l.2.2 1 _ rfl, l.2.2 2 _ rfl, l.1⟩⟩)
 refine wp_region_held_drew (S := fun w' => (w'.cell? ⟨n2, 0, none⟩ = some (.int .i64 a) ∧ w'.cell? ⟨n2, 1, none⟩ = some (.bool true) ∧ w'.cell? ⟨n2, 2, none⟩ = some (.int .i64 2) ∧ w'.cell? ⟨n2, 3, none⟩ = some (.int .i64 t0) ∧ n2 < w'.heap.size) ∧ (w'.cell? ⟨n3, 0, none⟩ = some (.int .i64 g1) ∧ w'.cell? ⟨n3, 1, none⟩ = some (.int .u32 g2) ∧ w'.cell? ⟨n3, 2, none⟩ = some (.int .u32 g3) ∧ n3 < w'.heap.size) ∧ (w'.cell? ⟨n7, 0, none⟩ = some (.int .i64 (wrap64 (g1 + 1))) ∧ w'.cell? ⟨n7, 1, none⟩ = some (.int .u32 g2) ∧ w'.cell? ⟨n7, 2, none⟩ = some (.int .u32 g3) ∧ n7 < w'.heap.size)) (by kernel_rfl) (by exact HSt.out _ (by (show Grn _ _ _; repeat (first | with_reducible exact Grn.refl | with_reducible refine Grn.setCell ?_ _ _ | with_reducible refine Grn.ext ?_ _ | with_reducible refine Grn.alloc ?_ _ | with_reducible refine Grn.drew ?_)))) (fun hHeld => ?_)
 refine take_met 0 (oi := ⟨_, _, _, _, _, _⟩) (v := ?_) (by kernel_rfl) rfl (by rfl) (fun _ _ _ h => h) (by assumption) ?_ ?_
 rotate_left 1
 ·intro w hSw
  try dsimp only at hSw
  go_simp
  try with_reducible rfl
 (try simp only [Act.put, pA, pB, pC])
 refine take_met 1 (oi := ⟨_, _, _, _, _, _⟩) (v := ?_) (by kernel_rfl) rfl (by rfl) (fun _ _ _ h => h) (by assumption) ?_ ?_
 rotate_left 1
 ·intro w hSw
  try dsimp only at hSw
  go_simp
  try with_reducible rfl
 (try simp only [Act.put, pA, pB, pC])
 refine take_met 2 (oi := ⟨_, _, _, _, _, _⟩) (v := ?_) (by kernel_rfl) rfl (by rfl) (fun _ _ _ h => h) (by assumption) ?_ ?_
 rotate_left 1
 ·intro w hSw
  try dsimp only at hSw
  go_simp
  try with_reducible rfl
 (try simp only [Act.put, pA, pB, pC])
 refine take_met 3 (oi := ⟨_, _, _, _, _, _⟩) (v := ?_) (by kernel_rfl) rfl (by rfl) (fun _ _ _ h => h) (by assumption) ?_ ?_
 rotate_left 1
 ·intro w hSw
  try dsimp only at hSw
  go_simp
  try with_reducible rfl
 (try simp only [Act.put, pA, pB, pC])
 refine take_met 4 (oi := ⟨_, _, _, _, _, _⟩) (v := ?_) (by kernel_rfl) rfl (by rfl) (fun _ _ _ h => h) (by assumption) ?_ ?_
 rotate_left 1
 ·intro w hSw
  try dsimp only at hSw
  go_simp
  try with_reducible rfl
 (try simp only [Act.put, pA, pB, pC])
 refine take_met 5 (oi := ⟨_, _, _, _, _, _⟩) (v := ?_) (by kernel_rfl) rfl (by rfl) (fun _ _ _ h => h) (by assumption) ?_ ?_
 rotate_left 1
 ·intro w hSw
  try dsimp only at hSw
  go_simp
  try with_reducible rfl
 (try simp only [Act.put, pA, pB, pC])
 refine take_met 6 (oi := ⟨_, _, _, _, _, _⟩) (v := ?_) (by kernel_rfl) rfl (by rfl) (fun _ _ _ h => h) (by assumption) ?_ ?_
 rotate_left 1
 ·intro w hSw
  try dsimp only at hSw
  go_simp
  try with_reducible rfl
 (try simp only [Act.put, pA, pB, pC])
 refine take_met 7 (oi := ⟨_, _, _, _, _, _⟩) (v := ?_) (by kernel_rfl) rfl (by rfl) (fun _ _ _ h => h) (by assumption) ?_ ?_
 rotate_left 1
 ·intro w hSw
  try dsimp only at hSw
  go_simp
  try with_reducible rfl
 (try simp only [Act.put, pA, pB, pC])
 refine take_met 8 (oi := ⟨_, _, _, _, _, _⟩) (v := ?_) (by kernel_rfl) rfl (by rfl) (fun _ _ _ h => h) (by assumption) ?_ ?_
 rotate_left 1
 ·intro w hSw
  try dsimp only at hSw
  go_simp
  try with_reducible rfl
 (try simp only [Act.put, pA, pB, pC])
 refine take_only 9 (oi := ⟨_, _, _, _, _, _⟩) (by kernel_rfl) rfl (fun K hK => ?_)
 go_simp
 have hOld := hHeld
 clear hHeld
 refine hK.out _ _ (by exact HSt.out _ (by (show Grn _ _ _; repeat (first | with_reducible exact Grn.refl | with_reducible refine Grn.setCell ?_ _ _ | with_reducible refine Grn.ext ?_ _ | with_reducible refine Grn.alloc ?_ _ | with_reducible refine Grn.drew ?_)))) (fun hHeld => ?_)
 clear hOld hK K
 (try simp only [Act.put, pA, pB, pC])
 refine take_met 10 (oi := ⟨_, _, _, _, _, _⟩) (v := ?_) (by kernel_rfl) rfl (by rfl) (fun _ _ _ h => h) (by assumption) ?_ ?_
 rotate_left 1
 ·intro w hSw
  try dsimp only at hSw
  go_simp
  try with_reducible rfl
 (try simp only [Act.put, pA, pB, pC])
 refine wpAnyH_done (by kernel_rfl) ?_ _
 clear hHeld
 have hgn := HN.out.1
 (repeat (first | go_values | go_skip | go_guarded | go_step | go_upon | (simp only [Int.not_lt, Int.not_le] at *; go_simp) | (go_ite <;> go_prune <;> (try go_simp))))
 exact bodyPost_ret (v := .tuple #[.iface ckT (.agg #[.int .i64 a, .bool true, .int .i64 2, .int .i64 t0]), .agg (a8E ⟨6, a, (g1, g2, g3), (wrap64 (g1 + 1), g2, g3)⟩).toArray, .bool false]) (by simp [results, Tryd.results114, go_sem, ckT, a8E, d0, d1, d2, d3, d4, d5, d6, d7, df, dg]) rfl ⟨rfl, by (show Ext _ _; repeat with_reducible first | (refine xH ?_; assumption) | exact xR _ | refine xX ?_ _ | refine xA ?_ _ | refine xD ?_ | refine xS ?_ (by (try dsimp only); first | omega | (simp; done) | (simp; omega)) _)⟩
set_option maxHeartbeats 1000000 in
theorem ckn_swap2 (a t0 : Int) (g1 g2 g3 : Int) (w : World) : Calls Tryd.prog 114 #[.agg #[.int .i64 a, .bool true, .int .i64 2, .int .i64 t0], .agg #[.int .i64 g1, .int .u32 g2, .int .u32 g3, .bool false]] w fun e w' => e = .returned (.tuple #[.iface ckT (.agg #[.int .i64 a, .bool true, .int .i64 2, .int .i64 t0]), .agg (a8E ⟨6, a, (g1, g2, g3), (wrap64 (g1 + 1), g2, g3)⟩).toArray, .bool false]) ∧ ∃ r, w' = ext w r := by
 go_enter Tryd.func114, Tryd.ntmps114
 go_upto_region 13 with fail
 generalize hW : World.alloc _ _ = W
 have HEW := hid (show Ext w W by rw [← hW]; (show Ext _ _; repeat first | (with_reducible first | (refine xH ?_; assumption) | exact xR _ | refine xX ?_ _ | refine xA ?_ _) | refine xD ?_ | refine xN ?_ _ | exact xR _))
 have HB2 := hid (show Blk W w.heap.size [.int .i64 a, .bool true, .int .i64 2, .int .i64 t0] by rw [← hW]; (show Blk _ _ _; repeat first | (with_reducible first | (refine xH ?_; assumption) | refine bD ?_ | refine bX ?_ _) | (with_reducible refine bN _ _ rfl ?_; first | with_reducible rfl | (simp; done)) | (with_reducible first | refine bA ?_ _ | assumption | apply bS) | (with_reducible refine bO ?_ ?_; first | omega | (simp; omega)) | (show List.set _ _ _ = _; exact rfl) | (show _ < List.length _; simp; done)))
 have HB3 := hid (show Blk W (w.heap.size + 1) [.int .i64 g1, .int .u32 g2, .int .u32 g3, .bool false] by rw [← hW]; (show Blk _ _ _; repeat first | (with_reducible first | (refine xH ?_; assumption) | refine bD ?_ | refine bX ?_ _) | (with_reducible refine bN _ _ rfl ?_; first | with_reducible rfl | (simp; done)) | (with_reducible first | refine bA ?_ _ | assumption | apply bS) | (with_reducible refine bO ?_ ?_; first | omega | (simp; omega)) | (show List.set _ _ _ = _; exact rfl) | (show _ < List.length _; simp; done)))
 have HB5 := hid (show Blk W (w.heap.size + 1 + 1) [.int .i64 0, .int .i64 0, .int .i64 0, .int .u32 0, .int .u32 0, .int .i64 0, .int .u32 0, .int .u32 0] by rw [← hW]; (show Blk _ _ _; repeat first | (with_reducible first | (refine xH ?_; assumption) | refine bD ?_ | refine bX ?_ _) | (with_reducible refine bN _ _ rfl ?_; first | with_reducible rfl | (simp; done)) | (with_reducible first | refine bA ?_ _ | assumption | apply bS) | (with_reducible refine bO ?_ ?_; first | omega | (simp; omega)) | (show List.set _ _ _ = _; exact rfl) | (show _ < List.length _; simp; done)))
 have HB7 := hid (show Blk W (w.heap.size + 1 + 1 + 1) [.int .i64 (wrap64 (g1 + 1)), .int .u32 g2, .int .u32 g3] by rw [← hW]; (show Blk _ _ _; repeat first | (with_reducible first | (refine xH ?_; assumption) | refine bD ?_ | refine bX ?_ _) | (with_reducible refine bN _ _ rfl ?_; first | with_reducible rfl | (simp; done)) | (with_reducible first | refine bA ?_ _ | assumption | apply bS) | (with_reducible refine bO ?_ ?_; first | omega | (simp; omega)) | (show List.set _ _ _ = _; exact rfl) | (show _ < List.length _; simp; done)))
 obtain ⟨n7, hn7⟩ : ∃ g, g = w.heap.size + 1 + 1 + 1 := ⟨_, rfl⟩
 rw [← hn7] at HB7 ⊢
 obtain ⟨n5, hn5⟩ : ∃ g, g = w.heap.size + 1 + 1 := ⟨_, rfl⟩
 rw [← hn5] at HB5 ⊢
 obtain ⟨n3, hn3⟩ : ∃ g, g = w.heap.size + 1 := ⟨_, rfl⟩
 rw [← hn3] at HB3 ⊢
 obtain ⟨n2, hn2⟩ : ∃ g, g = w.heap.size := ⟨_, rfl⟩
 have HN := hid (show w.heap.size ≤ n5 ∧ n5 ≠ n2 ∧ n5 ≠ n3 ∧ n5 ≠ n7 by omega)
 rw [← hn2] at HB2 ⊢
 clear hW hn2 hn5 hn3 hn7
 have a0 := HB2.out.2.2 0 _ rfl
 have a1 := HB2.out.2.2 1 _ rfl
 have a2 := HB2.out.2.2 2 _ rfl
 have a3 := HB2.out.2.2 3 _ rfl
 have ag := HB2.out.1
 have d0 := HB5.out.2.2 0 _ rfl
 have d1 := HB5.out.2.2 1 _ rfl
 have d2 := HB5.out.2.2 2 _ rfl
 have d3 := HB5.out.2.2 3 _ rfl
 have d4 := HB5.out.2.2 4 _ rfl
 have d5 := HB5.out.2.2 5 _ rfl
 have d6 := HB5.out.2.2 6 _ rfl
 have d7 := HB5.out.2.2 7 _ rfl
 have df := HB5.out.2.1
 have dg := HB5.out.1
 have HSt := hid (show ∀ w', Grn n5 W w' → (fun w' => (w'.cell? ⟨n2, 0, none⟩ = some (.int .i64 a) ∧ w'.cell? ⟨n2, 1, none⟩ = some (.bool true) ∧ w'.cell? ⟨n2, 2, none⟩ = some (.int .i64 2) ∧ w'.cell? ⟨n2, 3, none⟩ = some (.int .i64 t0) ∧ n2 < w'.heap.size) ∧ (w'.cell? ⟨n3, 0, none⟩ = some (.int .i64 g1) ∧ w'.cell? ⟨n3, 1, none⟩ = some (.int .u32 g2) ∧ w'.cell? ⟨n3, 2, none⟩ = some (.int .u32 g3) ∧ n3 < w'.heap.size) ∧ (w'.cell? ⟨n7, 0, none⟩ = some (.int .i64 (wrap64 (g1 + 1))) ∧ w'.cell? ⟨n7, 1, none⟩ = some (.int .u32 g2) ∧ w'.cell? ⟨n7, 2, none⟩ = some (.int .u32 g3) ∧ n7 < w'.heap.size)) w' from fun w' G => by
  have h := HB2.out.grn G (by have := HN.out; omega)
  have k := HB3.out.grn G (by have := HN.out; omega)
  have l := HB7.out.grn G (by have := HN.out; omega)
  exact ⟨⟨h.2.2 0 _ rfl, h.2.2 1 _ rfl, h.2.2 2 _ rfl, h.2.2 3 _ rfl, h.1⟩, ⟨k.2.2 0 _ rfl, k.2.2 1 _ rfl, k.2.2 2 _ rfl, k.1⟩, ⟨l.2.2 0 _ rfl, l.2.2 1 _ rfl, l.2.2 2 _ rfl, l.1⟩⟩)
 refine wp_region_held_drew (S := fun w' => (w'.cell? ⟨n2, 0, none⟩ = some (.int .i64 a) ∧ w'.cell? ⟨n2, 1, none⟩ = some (.bool true) ∧ w'.cell? ⟨n2, 2, none⟩ = some (.int .i64 2) ∧ w'.cell? ⟨n2, 3, none⟩ = some (.int .i64 t0) ∧ n2 < w'.heap.size) ∧ (w'.cell? ⟨n3, 0, none⟩ = some (.int .i64 g1) ∧ w'.cell? ⟨n3, 1, none⟩ = some (.int .u32 g2) ∧ w'.cell? ⟨n3, 2, none⟩ = some (.int .u32 g3) ∧ n3 < w'.heap.size) ∧ (w'.cell? ⟨n7, 0, none⟩ = some (.int .i64 (wrap64 (g1 + 1))) ∧ w'.cell? ⟨n7, 1, none⟩ = some (.int .u32 g2) ∧ w'.cell? ⟨n7, 2, none⟩ = some (.int .u32 g3) ∧ n7 < w'.heap.size)) (by kernel_rfl) (by exact HSt.out _ (by (show Grn _ _ _; repeat (first | with_reducible exact Grn.refl | with_reducible refine Grn.setCell ?_ _ _ | with_reducible refine Grn.ext ?_ _ | with_reducible refine Grn.alloc ?_ _ | with_reducible refine Grn.drew ?_)))) (fun hHeld => ?_)
 refine take_met 0 (oi := ⟨_, _, _, _, _, _⟩) (v := ?_) (by kernel_rfl) rfl (by rfl) (fun _ _ _ h => h) (by assumption) ?_ ?_
 rotate_left 1
 ·intro w hSw
  try dsimp only at hSw
  go_simp
  try with_reducible rfl
 (try simp only [Act.put, pA, pB, pC])
 refine take_met 1 (oi := ⟨_, _, _, _, _, _⟩) (v := ?_) (by kernel_rfl) rfl (by rfl) (fun _ _ _ h => h) (by assumption) ?_ ?_
 rotate_left 1
 ·intro w hSw
  try dsimp only at hSw
  go_simp
  try with_reducible rfl
 (try simp only [Act.put, pA, pB, pC])
 refine take_met 2 (oi := ⟨_, _, _, _, _, _⟩) (v := ?_) (by kernel_rfl) rfl (by rfl) (fun _ _ _ h => h) (by assumption) ?_ ?_
 rotate_left 1
 ·intro w hSw
  try dsimp only at hSw
  go_simp
  try with_reducible rfl
 (try simp only [Act.put, pA, pB, pC])
 refine take_met 3 (oi := ⟨_, _, _, _, _, _⟩) (v := ?_) (by kernel_rfl) rfl (by rfl) (fun _ _ _ h => h) (by assumption) ?_ ?_
 rotate_left 1
 ·intro w hSw
  try dsimp only at hSw
  go_simp
  try with_reducible rfl
 (try simp only [Act.put, pA, pB, pC])
 refine take_met 4 (oi := ⟨_, _, _, _, _, _⟩) (v := ?_) (by kernel_rfl) rfl (by rfl) (fun _ _ _ h => h) (by assumption) ?_ ?_
 rotate_left 1
 ·intro w hSw
  try dsimp only at hSw
  go_simp
  try with_reducible rfl
 (try simp only [Act.put, pA, pB, pC])
 refine take_met 5 (oi := ⟨_, _, _, _, _, _⟩) (v := ?_) (by kernel_rfl) rfl (by rfl) (fun _ _ _ h => h) (by assumption) ?_ ?_
 rotate_left 1
 ·intro w hSw
  try dsimp only at hSw
  go_simp
  try with_reducible rfl
 (try simp only [Act.put, pA, pB, pC])
 refine take_met 6 (oi := ⟨_, _, _, _, _, _⟩) (v := ?_) (by kernel_rfl) rfl (by rfl) (fun _ _ _ h => h) (by assumption) ?_ ?_
 rotate_left 1
 ·intro w hSw
  try dsimp only at hSw
  go_simp
  try with_reducible rfl
 (try simp only [Act.put, pA, pB, pC])
 refine take_met 7 (oi := ⟨_, _, _, _, _, _⟩) (v := ?_) (by kernel_rfl) rfl (by rfl) (fun _ _ _ h => h) (by assumption) ?_ ?_
 rotate_left 1
 ·intro w hSw
  try dsimp only at hSw
  go_simp
  try with_reducible rfl
 (try simp only [Act.put, pA, pB, pC])
 refine take_met 8 (oi := ⟨_, _, _, _, _, _⟩) (v := ?_) (by kernel_rfl) rfl (by rfl) (fun _ _ _ h => h) (by assumption) ?_ ?_
 rotate_left 1
 ·intro w hSw
  try dsimp only at hSw
  go_simp
  try with_reducible rfl
 (try simp only [Act.put, pA, pB, pC])
 refine take_only 9 (oi := ⟨_, _, _, _, _, _⟩) (by kernel_rfl) rfl (fun K hK => ?_)
 go_simp
 have hOld := hHeld
 clear hHeld
 refine hK.out _ _ (by exact HSt.out _ (by (show Grn _ _ _; repeat (first | with_reducible exact Grn.refl | with_reducible refine Grn.setCell ?_ _ _ | with_reducible refine Grn.ext ?_ _ | with_reducible refine Grn.alloc ?_ _ | with_reducible refine Grn.drew ?_)))) (fun hHeld => ?_)
 clear hOld hK K
 (try simp only [Act.put, pA, pB, pC])
 refine take_met 10 (oi := ⟨_, _, _, _, _, _⟩) (v := ?_) (by kernel_rfl) rfl (by rfl) (fun _ _ _ h => h) (by assumption) ?_ ?_
 rotate_left 1
 ·intro w hSw
  try dsimp only at hSw
  go_simp
  try with_reducible rfl
 (try simp only [Act.put, pA, pB, pC])
 refine wpAnyH_done (by kernel_rfl) ?_ _
 clear hHeld
 have hgn := HN.out.1
 (repeat (first | go_values | go_skip | go_guarded | go_step | go_upon | (simp only [Int.not_lt, Int.not_le] at *; go_simp) | (go_ite <;> go_prune <;> (try go_simp))))
 exact bodyPost_ret (v := .tuple #[.iface ckT (.agg #[.int .i64 a, .bool true, .int .i64 2, .int .i64 t0]), .agg (a8E ⟨6, a, (g1, g2, g3), (wrap64 (g1 + 1), g2, g3)⟩).toArray, .bool false]) (by simp [results, Tryd.results114, go_sem, ckT, a8E, d0, d1, d2, d3, d4, d5, d6, d7, df, dg]) rfl ⟨rfl, by (show Ext _ _; repeat with_reducible first | (refine xH ?_; assumption) | exact xR _ | refine xX ?_ _ | refine xA ?_ _ | refine xD ?_ | refine xS ?_ (by (try dsimp only); first | omega | (simp; done) | (simp; omega)) _)⟩
theorem cknext_any (a : Int) (tk : Bool) (st tm : Int) (hst : 0 ≤ st ∧ st ≤ 3) (g1 g2 g3 : Int) (ok : Bool) (w : World) : Calls Tryd.prog 114 #[.agg (ckL ⟨a, tk, st, tm⟩).toArray, .agg (gtE ((g1, g2, g3), ok)).toArray] w fun e w' => e = .returned (.tuple #[.iface ckT (.agg (ckL (ckNext ⟨a, tk, st, tm⟩ ((g1, g2, g3), ok)).1).toArray), .agg (a8E (ckNext ⟨a, tk, st, tm⟩ ((g1, g2, g3), ok)).2.1).toArray, .bool (ckNext ⟨a, tk, st, tm⟩ ((g1, g2, g3), ok)).2.2]) ∧ ∃ r, w' = ext w r := by
 by_cases h3 : st = 3
 ·subst h3
  exact ckn_over a tm tk g1 g2 g3 ok w
 by_cases h0 : st = 0
 ·subst h0
  exact ckn_begun a tm tk g1 g2 g3 ok w
 cases tk with
 | false =>
  have he : ckNext ⟨a, false, st, tm⟩ ((g1, g2, g3), ok) = (⟨a, false, 3, g1⟩, a8Z, true) := by simp [ckNext, h3, h0]
  rw [he]
  exact ckn_now a st tm ⟨h3, h0⟩ g1 g2 g3 ok w
 | true =>
  by_cases h2 : st = 2
  ·subst h2
   cases ok with
   | false => exact ckn_swap2 a tm g1 g2 g3 w
   | true => exact ckn_met a tm g1 g2 g3 w
  ·have h1 : st = 1 := by omega
   subst h1
   exact ckn_swap1 a tm g1 g2 g3 ok w
theorem codeT_ck : CodeT ckT 114 := ⟨by kernel_rfl, fun _ _ => by kernel_rfl, fun _ _ => by kernel_rfl⟩
theorem assert_nil26 (w : World) : (Instr.typeAssert .nilIface 55 ckT true).run Tryd.prog w = .ok (.tuple #[.agg #[.int .i64 0, .bool false, .int .i64 0, .int .i64 0], .bool false]) w := by kernel_rfl
theorem assert_code26 (v : Value) (w : World) : (Instr.typeAssert (.iface ckT v) 55 ckT true).run Tryd.prog w = .ok (.tuple #[v, .bool true]) w := by kernel_rfl
set_option maxRecDepth 100000 in
theorem ctime_over (a : Int) (tk : Bool) (tm : Int) (w : World) : Calls Tryd.prog 9 #[.iface ckT (.agg (ckL ⟨a, tk, 3, tm⟩).toArray)] w fun e w' => e = .returned (.tuple #[.int .i64 tm, .bool true]) ∧ ∃ r, w' = ext w r := by
 have has := assert_nil26
 have hat := assert_code26
 go_enter Tryd.func9, Tryd.ntmps9
 go_wp2_with fail
 go_ret2
 exact ⟨rfl, by (show Ext _ _; repeat first | (with_reducible first | (refine xH ?_; assumption) | exact xR _ | refine xX ?_ _ | refine xA ?_ _) | refine xD ?_ | refine xN ?_ _ | exact xR _)⟩
set_option maxRecDepth 100000 in
theorem ctime_under (a : Int) (tk : Bool) (st tm : Int) (h : ¬ st = 3) (w : World) : Calls Tryd.prog 9 #[.iface ckT (.agg (ckL ⟨a, tk, st, tm⟩).toArray)] w fun e w' => e = .returned (.tuple #[.int .i64 0, .bool false]) ∧ ∃ r, w' = ext w r := by
 have has := assert_nil26
 have hat := assert_code26
 go_enter Tryd.func9, Tryd.ntmps9
 go_wp2_with fail
 go_ret2
 exact ⟨rfl, by (show Ext _ _; repeat first | (with_reducible first | (refine xH ?_; assumption) | exact xR _ | refine xX ?_ _ | refine xA ?_ _) | refine xD ?_ | refine xN ?_ _ | exact xR _)⟩
end Go.Proofs.YtadilekaombofaaDoor
