/- Arrays of three words compared; the walk of package desc's Unpack. Walks of the reference of descriptors: Entry, Unpack. Walks of small functions of law 19: great, the reference's Place, May. Entries compared; the walk of the reference's Same. -/
import Derived.Test.YtdpbcfjfnclpiaaDoorPk08
namespace Go.Proofs.YtdpbcfjfnclpiaaDoor
set_option linter.unusedSimpArgs false
set_option linter.unusedVariables false
open Go.RowKit
theorem eqIn_word (x1 x2 x3 k1 k2 k3 : Int) (w : World) : (Op.equalIn 9999 40 (.agg #[.int .i64 x1, .int .u32 x2, .int .u32 x3]) (.agg #[.int .i64 k1, .int .u32 k2, .int .u32 k3])).run Tryd.prog w = .ok (wdB (x1, x2, x3) (k1, k2, k3)) w := by
 unfold wdB
 have hp : Tryd.prog.stoodInHeld 40 = false := by kernel_rfl
 rw [run_equalIn_struct w 9998 _ _ _ (by kernel_rfl) hp]
 by_cases h1 : x1 = k1
 ·by_cases h2 : x2 = k2
  ·by_cases h3 : x3 = k3
   all_goals simp [Op.eqFields, Program.fieldsOf, Tryd.underlying40, go_sem, h1, h2, h3]
  ·simp [Op.eqFields, Program.fieldsOf, Tryd.underlying40, go_sem, h1, h2]
 ·simp [Op.eqFields, Program.fieldsOf, Tryd.underlying40, go_sem, h1]
set_option maxRecDepth 100000 in
set_option maxHeartbeats 4000000 in
theorem eqIn_arr (a1 a2 a3 a4 a5 a6 a7 a8 a9 b1 b2 b3 b4 b5 b6 b7 b8 b9 : Int) (w : World) :
 (Op.equalIn 10000 95 (.agg #[.int .i64 a1, .int .u32 a2, .int .u32 a3, .int .i64 a4, .int .u32 a5, .int .u32 a6, .int .i64 a7, .int .u32 a8, .int .u32 a9]) (.agg #[.int .i64 b1, .int .u32 b2, .int .u32 b3, .int .i64 b4, .int .u32 b5, .int .u32 b6, .int .i64 b7, .int .u32 b8, .int .u32 b9])).run Tryd.prog w = .ok (wdB (a1, a2, a3) (b1, b2, b3) && wdB (a4, a5, a6) (b4, b5, b6) && wdB (a7, a8, a9) (b7, b8, b9)) w := by
 rw [Op.equalIn]
 simp only [Sem.run_bind, run_underlying Tryd.underlying95, Result.andThen_ok]
 have e1 := eqIn_word a1 a2 a3 b1 b2 b3
 have e2 := eqIn_word a4 a5 a6 b4 b5 b6
 have e3 := eqIn_word a7 a8 a9 b7 b8 b9
 have hr : List.range' 0 3 = [0, 1, 2] := rfl
 generalize hp : wdB (a1, a2, a3) (b1, b2, b3) = p at *
 generalize hq : wdB (a4, a5, a6) (b4, b5, b6) = q at *
 generalize hs : wdB (a7, a8, a9) (b7, b8, b9) = s at *
 simp only [wdB] at hp hq hs
 simp only [Std.Legacy.Range.forIn_eq_forIn_range', go_sem]
 simp only [Std.Legacy.Range.size, hr, Nat.sub_zero, Nat.add_sub_cancel, Nat.div_one]
 cases p <;> cases q <;> cases s <;> simp only [decide_eq_true_eq, decide_eq_false_iff_not, Prod.mk.injEq] at hp hq hs
 all_goals
  simp [go_sem, List.forIn_cons]
 all_goals
  simp_all
theorem neq_arr (a1 a2 a3 a4 a5 a6 a7 a8 a9 b1 b2 b3 b4 b5 b6 b7 b8 b9 : Int) (w : World) :
 (binOp .neq 95 (.agg #[.int .i64 a1, .int .u32 a2, .int .u32 a3, .int .i64 a4, .int .u32 a5, .int .u32 a6, .int .i64 a7, .int .u32 a8, .int .u32 a9]) (.agg #[.int .i64 b1, .int .u32 b2, .int .u32 b3, .int .i64 b4, .int .u32 b5, .int .u32 b6, .int .i64 b7, .int .u32 b8, .int .u32 b9])).run Tryd.prog w = .ok (.bool (!(wdB (a1, a2, a3) (b1, b2, b3) && wdB (a4, a5, a6) (b4, b5, b6) && wdB (a7, a8, a9) (b7, b8, b9)))) w := by
 rw [run_neq_struct, eqIn_arr]; rfl
theorem eq_guard_arr (op : BinOp) (x y : Operand) (xs ys : Array Value) (w : World) : (eqGuard op 95 x y (.agg xs) (.agg ys)).run Tryd.prog w = .ok () w :=
 run_eqGuard_agg w op _ x y xs ys (by kernel_rfl)
def unpackB (x y z : Wd) : Bool := decide (0 ≤ x.1 ∧ x.1 < 4096) && (decide (x.2.1 = 0 ∨ x.2.1 = 1) && decide (x.2.2 = 0) && decide (y.2.2 = 0) && decide (z.2.1 = 0) && decide (z.2.2 = 0))
def unpackE (x y z : Wd) : En := ⟨x.1, y.1, y.2.1, y.2.2, z.1, x.2.1 == 1⟩
theorem unpack_eq (x y z : Wd) : (wdB (x.1, (if (x.2.1 == 1) = true then 1 else 0), 0) x && wdB (y.1, y.2.1, 0) y && wdB (z.1, 0, 0) z) = (decide (x.2.1 = 0 ∨ x.2.1 = 1) && decide (x.2.2 = 0) && decide (y.2.2 = 0) && decide (z.2.1 = 0) && decide (z.2.2 = 0)) := by
 obtain ⟨x1, x2, x3⟩ := x
 obtain ⟨y1, y2, y3⟩ := y
 obtain ⟨z1, z2, z3⟩ := z
 simp only [wdB, Prod.mk.injEq, true_and]
 rw [Bool.eq_iff_iff]
 simp only [Bool.and_eq_true, decide_eq_true_eq]
 constructor
 ·rintro ⟨⟨⟨h1, h2⟩, h3⟩, h4, h5⟩
  split at h1 <;> simp_all
 ·rintro ⟨⟨⟨⟨h1, h2⟩, h3⟩, h4⟩, h5⟩
  rcases h1 with h1 | h1 <;> simp_all
set_option maxRecDepth 100000 in
set_option maxHeartbeats 4000000 in
theorem unpack_any (x1 x2 x3 y1 y2 y3 z1 z2 z3 : Int) (w : World) :
 Calls Tryd.prog 70 #[.agg #[.int .i64 x1, .int .u32 x2, .int .u32 x3, .int .i64 y1, .int .u32 y2, .int .u32 y3, .int .i64 z1, .int .u32 z2, .int .u32 z3]] w fun e w' =>
  (e = if unpackB (x1, x2, x3) (y1, y2, y3) (z1, z2, z3) = true then .returned (.tuple #[.agg #[.int .i64 x1, .int .i64 y1, .int .u32 y2, .int .u32 y3, .int .i64 z1, .bool (x2 == 1)], .bool true])
   else .returned (.tuple #[.agg #[.int .i64 0, .int .i64 0, .int .u32 0, .int .u32 0, .int .i64 0, .bool false], .bool false])) ∧ ∃ r, w' = ext w r := by
 have hna := neq_arr
 have hga := eq_guard_arr
 by_cases hr : 0 ≤ x1 ∧ x1 < 4096
 rotate_left
 ·have HR := hid (show unpackB (x1, x2, x3) (y1, y2, y3) (z1, z2, z3) = false by unfold unpackB; rw [decide_eq_false hr]; rfl)
  have hc : x1 < 0 ∨ (¬ x1 < 0 ∧ 4096 ≤ x1) := by omega
  rw [HR.out]
  simp only [Bool.false_eq_true, if_false]
  clear hr
  rcases hc with h1 | ⟨h1, h2⟩
  all_goals
   go_enter Tryd.func70, Tryd.ntmps70
   (repeat (first | go_values | go_skip | go_guarded | go_step | go_upon | (simp only [Int.not_lt, Int.not_le] at *; go_simp) | (go_ite <;> go_prune <;> (try go_simp))))
   exact bodyPost_ret (v := .tuple #[.agg #[.int .i64 0, .int .i64 0, .int .u32 0, .int .u32 0, .int .i64 0, .bool false], .bool false]) (by simp [results, Tryd.results70, go_sem]) rfl ⟨rfl, by (show Ext _ _; repeat first | (with_reducible first | (refine xH ?_; assumption) | exact xR _ | refine xX ?_ _ | refine xA ?_ _) | refine xD ?_ | refine xN ?_ _ | refine xS ?_ (by (try dsimp only); first | omega | (simp; done) | (simp; omega)) _)⟩
 ·have hn1 : ¬ x1 < 0 := by omega
  have hn2 : ¬ 4096 ≤ x1 := by omega
  have HU := hid (show unpackB (x1, x2, x3) (y1, y2, y3) (z1, z2, z3) = (wdB (x1, (if (x2 == 1) = true then 1 else 0), 0) (x1, x2, x3) && wdB (y1, y2, 0) (y1, y2, y3) && wdB (z1, 0, 0) (z1, z2, z3)) by
   rw [unpack_eq (x1, x2, x3) (y1, y2, y3) (z1, z2, z3)]; unfold unpackB; rw [decide_eq_true hr]; rfl)
  clear hr
  by_cases hx2 : x2 = 1
  ·subst hx2
   have hbq : (1 == (1 : Int)) = true := by simp
   rw [hbq] at HU ⊢
   have HU2 := hid (show unpackB (x1, 1, x3) (y1, y2, y3) (z1, z2, z3) = (wdB (x1, 1, 0) (x1, 1, x3) && wdB (y1, y2, 0) (y1, y2, y3) && wdB (z1, 0, 0) (z1, z2, z3)) from HU.out)
   clear HU
   cases h1 : wdB (x1, 1, 0) (x1, 1, x3) <;> cases h2 : wdB (y1, y2, 0) (y1, y2, y3) <;> cases h3 : wdB (z1, 0, 0) (z1, z2, z3)
   all_goals
    have HV := HU2.out
    rw [h1, h2, h3] at HV
    rw [HV]
    clear HV HU2
    simp only [Bool.and_true, Bool.and_false, Bool.false_eq_true, if_true, if_false]
    go_enter Tryd.func70, Tryd.ntmps70
    go_wp2_with fail
    refine region_ext (by kernel_rfl) (by kernel_rfl) ?_
    repeat (go_big_quiet_step ((go_at_call 44; exact quiet_ext (pack_any x1 y1 y2 y3 z1 true _))))
    refine wpQuiet_nil ?_
    rintro _ ⟨r4, rfl⟩
    go_wp2_with fail
    first
     | exact bodyPost_ret (v := .tuple #[.agg #[.int .i64 0, .int .i64 0, .int .u32 0, .int .u32 0, .int .i64 0, .bool false], .bool false]) (by simp [results, Tryd.results70, go_sem]) rfl ⟨rfl, by (show Ext _ _; repeat with_reducible first | (refine xH ?_; assumption) | exact xR _ | refine xX ?_ _ | refine xA ?_ _ | refine xD ?_ | refine xS ?_ (by (try dsimp only); first | omega | (simp; done) | (simp; omega)) _)⟩
     | exact bodyPost_ret (v := .tuple #[.agg #[.int .i64 x1, .int .i64 y1, .int .u32 y2, .int .u32 y3, .int .i64 z1, .bool true], .bool true]) (by simp [results, Tryd.results70, go_sem]) rfl ⟨rfl, by (show Ext _ _; repeat with_reducible first | (refine xH ?_; assumption) | exact xR _ | refine xX ?_ _ | refine xA ?_ _ | refine xD ?_ | refine xS ?_ (by (try dsimp only); first | omega | (simp; done) | (simp; omega)) _)⟩
  ·skip
   have hbq : (x2 == (1 : Int)) = false := by simp [hx2]
   rw [hbq] at HU ⊢
   have HU2 := hid (show unpackB (x1, x2, x3) (y1, y2, y3) (z1, z2, z3) = (wdB (x1, 0, 0) (x1, x2, x3) && wdB (y1, y2, 0) (y1, y2, y3) && wdB (z1, 0, 0) (z1, z2, z3)) from HU.out)
   clear HU hx2
   cases h1 : wdB (x1, 0, 0) (x1, x2, x3) <;> cases h2 : wdB (y1, y2, 0) (y1, y2, y3) <;> cases h3 : wdB (z1, 0, 0) (z1, z2, z3)
   all_goals
    have HV := HU2.out
    rw [h1, h2, h3] at HV
    rw [HV]
    clear HV HU2
    simp only [Bool.and_true, Bool.and_false, Bool.false_eq_true, if_true, if_false]
    go_enter Tryd.func70, Tryd.ntmps70
    go_wp2_with fail
    refine region_ext (by kernel_rfl) (by kernel_rfl) ?_
    repeat (go_big_quiet_step ((go_at_call 44; exact quiet_ext (pack_any x1 y1 y2 y3 z1 false _))))
    refine wpQuiet_nil ?_
    rintro _ ⟨r4, rfl⟩
    go_wp2_with fail
    first
     | exact bodyPost_ret (v := .tuple #[.agg #[.int .i64 0, .int .i64 0, .int .u32 0, .int .u32 0, .int .i64 0, .bool false], .bool false]) (by simp [results, Tryd.results70, go_sem]) rfl ⟨rfl, by (show Ext _ _; repeat with_reducible first | (refine xH ?_; assumption) | exact xR _ | refine xX ?_ _ | refine xA ?_ _ | refine xD ?_ | refine xS ?_ (by (try dsimp only); first | omega | (simp; done) | (simp; omega)) _)⟩
     | exact bodyPost_ret (v := .tuple #[.agg #[.int .i64 x1, .int .i64 y1, .int .u32 y2, .int .u32 y3, .int .i64 z1, .bool false], .bool true]) (by simp [results, Tryd.results70, go_sem]) rfl ⟨rfl, by (show Ext _ _; repeat with_reducible first | (refine xH ?_; assumption) | exact xR _ | refine xX ?_ _ | refine xA ?_ _ | refine xD ?_ | refine xS ?_ (by (try dsimp only); first | omega | (simp; done) | (simp; omega)) _)⟩
end Go.Proofs.YtdpbcfjfnclpiaaDoor
namespace Go.Proofs.YtdpbcfjfnclpiaaDoor
set_option linter.unusedSimpArgs false
set_option linter.unusedVariables false
open Go.RowKit
set_option maxHeartbeats 1000000 in
theorem rentry_any (loc val ver ref new : Int) (wr : Bool) (w : World) :
 Calls Tryd.prog 76 #[.agg #[.int .i64 loc, .int .i64 val, .int .u32 ver, .int .u32 ref, .int .i64 new, .bool wr]] w fun e w' =>
  e = .returned (.agg #[.int .i64 loc, .int .u32 (if wr = true then 1 else 0), .int .u32 0, .int .i64 val, .int .u32 ver, .int .u32 0, .int .i64 new, .int .u32 0, .int .u32 0]) ∧ ∃ r, w' = ext w r := by
 cases wr
 ·go_enter Tryd.func76, Tryd.ntmps76
  (repeat (first | go_values | go_skip | go_guarded | go_step | go_upon | (simp only [Int.not_lt, Int.not_le] at *; go_simp) | (go_ite <;> go_prune <;> (try go_simp))))
  exact bodyPost_ret (v := .agg #[.int .i64 loc, .int .u32 0, .int .u32 0, .int .i64 val, .int .u32 ver, .int .u32 0, .int .i64 new, .int .u32 0, .int .u32 0]) (by simp [results, Tryd.results76, go_sem]) rfl ⟨rfl, by (show Ext _ _; repeat with_reducible first | (refine xH ?_; assumption) | exact xR _ | refine xX ?_ _ | refine xA ?_ _ | refine xD ?_ | refine xS ?_ (by (try dsimp only); first | omega | (simp; done) | (simp; omega)) _)⟩
 ·go_enter Tryd.func76, Tryd.ntmps76
  (repeat (first | go_values | go_skip | go_guarded | go_step | go_upon | (simp only [Int.not_lt, Int.not_le] at *; go_simp) | (go_ite <;> go_prune <;> (try go_simp))))
  exact bodyPost_ret (v := .agg #[.int .i64 loc, .int .u32 1, .int .u32 0, .int .i64 val, .int .u32 ver, .int .u32 0, .int .i64 new, .int .u32 0, .int .u32 0]) (by simp [results, Tryd.results76, go_sem]) rfl ⟨rfl, by (show Ext _ _; repeat with_reducible first | (refine xH ?_; assumption) | exact xR _ | refine xX ?_ _ | refine xA ?_ _ | refine xD ?_ | refine xS ?_ (by (try dsimp only); first | omega | (simp; done) | (simp; omega)) _)⟩
set_option maxRecDepth 100000 in
set_option maxHeartbeats 4000000 in
theorem runpack_any (x1 x2 x3 y1 y2 y3 z1 z2 z3 : Int) (hx0 : 0 ≤ x2) (w : World) :
 Calls Tryd.prog 71 #[.agg #[.int .i64 x1, .int .u32 x2, .int .u32 x3, .int .i64 y1, .int .u32 y2, .int .u32 y3, .int .i64 z1, .int .u32 z2, .int .u32 z3]] w fun e w' =>
  (e = if unpackB (x1, x2, x3) (y1, y2, y3) (z1, z2, z3) = true then .returned (.tuple #[.agg #[.int .i64 x1, .int .i64 y1, .int .u32 y2, .int .u32 y3, .int .i64 z1, .bool (x2 == 1)], .bool true])
   else .returned (.tuple #[.agg #[.int .i64 0, .int .i64 0, .int .u32 0, .int .u32 0, .int .i64 0, .bool false], .bool false])) ∧ ∃ r, w' = ext w r := by
 have hna := neq_arr
 have hga := eq_guard_arr
 by_cases hr : (0 ≤ x1 ∧ x1 < 4096) ∧ x2 ≤ 1
 rotate_left
 ·have HR := hid (show unpackB (x1, x2, x3) (y1, y2, y3) (z1, z2, z3) = false by
   unfold unpackB
   by_cases h9 : 0 ≤ x1 ∧ x1 < 4096
   ·rw [decide_eq_false (show ¬ (x2 = 0 ∨ x2 = 1) by omega)]; simp
   ·rw [decide_eq_false h9]; rfl)
  have hc : x1 < 0 ∨ (¬ x1 < 0 ∧ 4096 ≤ x1) ∨ (¬ x1 < 0 ∧ ¬ 4096 ≤ x1 ∧ 1 < x2) := by omega
  rw [HR.out]
  simp only [Bool.false_eq_true, if_false]
  clear hr
  rcases hc with h1 | ⟨h1, h2⟩ | ⟨h1, h2, h3⟩
  all_goals
   go_enter Tryd.func71, Tryd.ntmps71
   (repeat (first | go_values | go_skip | go_guarded | go_step | go_upon | (simp only [Int.not_lt, Int.not_le] at *; go_simp) | (go_ite <;> go_prune <;> (try go_simp))))
   exact bodyPost_ret (v := .tuple #[.agg #[.int .i64 0, .int .i64 0, .int .u32 0, .int .u32 0, .int .i64 0, .bool false], .bool false]) (by simp [results, Tryd.results71, go_sem]) rfl ⟨rfl, by (show Ext _ _; repeat with_reducible first | (refine xH ?_; assumption) | exact xR _ | refine xX ?_ _ | refine xA ?_ _ | refine xD ?_ | refine xS ?_ (by (try dsimp only); first | omega | (simp; done) | (simp; omega)) _)⟩
 ·have hn1 : ¬ x1 < 0 := by omega
  have hn2 : ¬ 4096 ≤ x1 := by omega
  have hn3 : ¬ 1 < x2 := by omega
  have HU := hid (show unpackB (x1, x2, x3) (y1, y2, y3) (z1, z2, z3) = (wdB (x1, (if (x2 == 1) = true then 1 else 0), 0) (x1, x2, x3) && wdB (y1, y2, 0) (y1, y2, y3) && wdB (z1, 0, 0) (z1, z2, z3)) by
   rw [unpack_eq (x1, x2, x3) (y1, y2, y3) (z1, z2, z3)]; unfold unpackB; rw [decide_eq_true hr.1]; rfl)
  have hx01 : x2 = 1 ∨ x2 = 0 := by omega
  clear hr
  rcases hx01 with rfl | rfl
  ·have hbq : ((1 : Int) == (1 : Int)) = true := by simp
   rw [hbq] at HU ⊢
   have HU2 := hid (show unpackB (x1, 1, x3) (y1, y2, y3) (z1, z2, z3) = (wdB (x1, 1, 0) (x1, 1, x3) && wdB (y1, y2, 0) (y1, y2, y3) && wdB (z1, 0, 0) (z1, z2, z3)) from HU.out)
   clear HU
   cases h1 : wdB (x1, 1, 0) (x1, 1, x3) <;> cases h2 : wdB (y1, y2, 0) (y1, y2, y3) <;> cases h3 : wdB (z1, 0, 0) (z1, z2, z3)
   all_goals
    have HV := HU2.out
    have H2 := hid h2
    rw [h1, h2, h3] at HV
    rw [HV]
    clear HV HU2
    simp only [Bool.and_true, Bool.and_false, Bool.false_eq_true, if_true, if_false]
    go_enter Tryd.func71, Tryd.ntmps71
    go_wp2_with fail
    refine region_ext (by kernel_rfl) (by kernel_rfl) ?_
    repeat (go_big_quiet_step ((go_at_call 76; exact quiet_ext (rentry_any x1 y1 y2 0 z1 true _))))
    refine wpQuiet_nil ?_
    rintro _ ⟨r4, rfl⟩
    go_wp2_with fail
    first
     | exact bodyPost_ret (v := .tuple #[.agg #[.int .i64 0, .int .i64 0, .int .u32 0, .int .u32 0, .int .i64 0, .bool false], .bool false]) (by simp [results, Tryd.results71, go_sem]) rfl ⟨rfl, by (show Ext _ _; repeat with_reducible first | (refine xH ?_; assumption) | exact xR _ | refine xX ?_ _ | refine xA ?_ _ | refine xD ?_ | refine xS ?_ (by (try dsimp only); first | omega | (simp; done) | (simp; omega)) _)⟩
     | (have h9 := of_decide_eq_true H2.out
        simp only [Prod.mk.injEq, true_and] at h9
        subst h9
        exact bodyPost_ret (v := .tuple #[.agg #[.int .i64 x1, .int .i64 y1, .int .u32 y2, .int .u32 0, .int .i64 z1, .bool true], .bool true]) (by simp [results, Tryd.results71, go_sem]) rfl ⟨rfl, by (show Ext _ _; repeat with_reducible first | (refine xH ?_; assumption) | exact xR _ | refine xX ?_ _ | refine xA ?_ _ | refine xD ?_ | refine xS ?_ (by (try dsimp only); first | omega | (simp; done) | (simp; omega)) _)⟩)
  ·have hbq : ((0 : Int) == (1 : Int)) = false := by simp
   rw [hbq] at HU ⊢
   have HU2 := hid (show unpackB (x1, 0, x3) (y1, y2, y3) (z1, z2, z3) = (wdB (x1, 0, 0) (x1, 0, x3) && wdB (y1, y2, 0) (y1, y2, y3) && wdB (z1, 0, 0) (z1, z2, z3)) from HU.out)
   clear HU
   cases h1 : wdB (x1, 0, 0) (x1, 0, x3) <;> cases h2 : wdB (y1, y2, 0) (y1, y2, y3) <;> cases h3 : wdB (z1, 0, 0) (z1, z2, z3)
   all_goals
    have HV := HU2.out
    have H2 := hid h2
    rw [h1, h2, h3] at HV
    rw [HV]
    clear HV HU2
    simp only [Bool.and_true, Bool.and_false, Bool.false_eq_true, if_true, if_false]
    go_enter Tryd.func71, Tryd.ntmps71
    go_wp2_with fail
    refine region_ext (by kernel_rfl) (by kernel_rfl) ?_
    repeat (go_big_quiet_step ((go_at_call 76; exact quiet_ext (rentry_any x1 y1 y2 0 z1 false _))))
    refine wpQuiet_nil ?_
    rintro _ ⟨r4, rfl⟩
    go_wp2_with fail
    first
     | exact bodyPost_ret (v := .tuple #[.agg #[.int .i64 0, .int .i64 0, .int .u32 0, .int .u32 0, .int .i64 0, .bool false], .bool false]) (by simp [results, Tryd.results71, go_sem]) rfl ⟨rfl, by (show Ext _ _; repeat with_reducible first | (refine xH ?_; assumption) | exact xR _ | refine xX ?_ _ | refine xA ?_ _ | refine xD ?_ | refine xS ?_ (by (try dsimp only); first | omega | (simp; done) | (simp; omega)) _)⟩
     | (have h9 := of_decide_eq_true H2.out
        simp only [Prod.mk.injEq, true_and] at h9
        subst h9
        exact bodyPost_ret (v := .tuple #[.agg #[.int .i64 x1, .int .i64 y1, .int .u32 y2, .int .u32 0, .int .i64 z1, .bool false], .bool true]) (by simp [results, Tryd.results71, go_sem]) rfl ⟨rfl, by (show Ext _ _; repeat with_reducible first | (refine xH ?_; assumption) | exact xR _ | refine xX ?_ _ | refine xA ?_ _ | refine xD ?_ | refine xS ?_ (by (try dsimp only); first | omega | (simp; done) | (simp; omega)) _)⟩)
end Go.Proofs.YtdpbcfjfnclpiaaDoor
namespace Go.Proofs.YtdpbcfjfnclpiaaDoor
set_option linter.unusedSimpArgs false
set_option linter.unusedVariables false
open Go.RowKit
def rplaceN (T B sl rm who : Int) : Int × Int :=
 if 1 ≤ who ∧ who ≤ T then (sl + (who - 1) * 104, 32) else if 9 ≤ who ∧ who < 9 + B then (rm + (who - 9) * 32, 10) else (-1, 0)
set_option maxHeartbeats 1000000 in
theorem rplace_any (T B sl rm who : Int) (v : Value) (sz : Int) (hT : 0 ≤ T ∧ T ≤ 8) (hB : 0 ≤ B ∧ B ≤ 64) (hs : 0 ≤ sl ∧ sl ≤ 100000) (hr : 0 ≤ rm ∧ rm ≤ 100000) (w : World) :
 Calls Tryd.prog 31 #[.agg #[.int .i64 T, .int .i64 B, .int .i64 sl, .int .i64 rm, .int .i64 104, .int .i64 32, v, .int .i64 sz], .int .i64 who] w fun e w' =>
  e = .returned (.tuple #[.int .i64 (rplaceN T B sl rm who).1, .int .i64 (rplaceN T B sl rm who).2]) ∧ ∃ r, w' = ext w r := by
 obtain ⟨hT0, hT1⟩ := hT
 obtain ⟨hB0, hB1⟩ := hB
 obtain ⟨hs0, hs1⟩ := hs
 obtain ⟨hr0, hr1⟩ := hr
 by_cases h1 : 1 ≤ who ∧ who ≤ T
 ·have HR := hid (show rplaceN T B sl rm who = (sl + (who - 1) * 104, 32) by unfold rplaceN; rw [if_pos h1])
  obtain ⟨a1, a2⟩ := h1
  go_enter Tryd.func31, Tryd.ntmps31
  go_wp2_with fail
  go_ret2
  exact ⟨by rw [HR.out]; rfl, by (show Ext _ _; repeat first | (with_reducible first | (refine xH ?_; assumption) | exact xR _ | refine xX ?_ _ | refine xA ?_ _) | refine xD ?_ | refine xN ?_ _ | exact xR _)⟩
 ·by_cases h9 : 9 ≤ who ∧ who < 9 + B
  ·have HR := hid (show rplaceN T B sl rm who = (rm + (who - 9) * 32, 10) by unfold rplaceN; rw [if_neg h1, if_pos h9])
   obtain ⟨a1, a2⟩ := h9
   have a3 : 1 ≤ who := by omega
   have a4 : ¬ who ≤ T := by omega
   clear h1
   go_enter Tryd.func31, Tryd.ntmps31
   go_wp2_with fail
   go_ret2
   exact ⟨by rw [HR.out]; rfl, by (show Ext _ _; repeat first | (with_reducible first | (refine xH ?_; assumption) | exact xR _ | refine xX ?_ _ | refine xA ?_ _) | refine xD ?_ | refine xN ?_ _ | exact xR _)⟩
  ·have HR := hid (show rplaceN T B sl rm who = (-1, 0) by unfold rplaceN; rw [if_neg h1, if_neg h9])
   have hc : (¬ 1 ≤ who ∧ ¬ 9 ≤ who) ∨ (1 ≤ who ∧ ¬ who ≤ T ∧ ¬ 9 ≤ who) ∨ (1 ≤ who ∧ ¬ who ≤ T ∧ 9 ≤ who ∧ ¬ who < 9 + B) := by omega
   clear h1 h9
   rcases hc with ⟨b1, b2⟩ | ⟨b1, b2, b3⟩ | ⟨b1, b2, b3, b4⟩
   all_goals
    go_enter Tryd.func31, Tryd.ntmps31
    go_wp2_with fail
    go_ret2
    exact ⟨by rw [HR.out]; rfl, by (show Ext _ _; repeat first | (with_reducible first | (refine xH ?_; assumption) | exact xR _ | refine xX ?_ _ | refine xA ?_ _) | refine xD ?_ | refine xN ?_ _ | exact xR _)⟩
end Go.Proofs.YtdpbcfjfnclpiaaDoor
namespace Go.Proofs.YtdpbcfjfnclpiaaDoor
set_option linter.unusedSimpArgs false
set_option linter.unusedVariables false
open Go.RowKit
def enB (x y : En) : Bool := decide (x.loc = y.loc) && (decide (x.val = y.val) && decide (x.ver = y.ver) && decide (x.ref = y.ref)) && decide (x.new = y.new) && decide (x.wr = y.wr)
def sameG (l k : List En) : Bool := (l.zip k).all (fun p => enB p.1 p.2)
def sameB (l k : List En) : Bool := decide (l.length = k.length) && sameG l k
end Go.Proofs.YtdpbcfjfnclpiaaDoor
