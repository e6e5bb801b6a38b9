/- Walks of law 20's small functions: Plan, Few, Cell, Ref, asks, Entries. -/
import Derived.Test.YtfijnpfhffhffaaDoorArgsC
import Derived.Test.YtfijnpfhffhffaaDoorSlD
import Derived.Deep.DeepCutAuto
namespace Go.Proofs.YtfijnpfhffhffaaDoor
set_option linter.unusedSimpArgs false
set_option linter.unusedVariables false
open Go.RowKit

set_option maxHeartbeats 1000000 in
theorem plan20_any (w : World) :
    Calls Tryd.prog 8 #[] w fun y w' => y = .returned (.agg #[.int .i64 3, .int .i64 8, .int .i64 1]) ∧ ∃ r, w' = ext w r := by
  go_enter Tryd.func8, Tryd.ntmps8
  (repeat (first | go_values | go_skip | go_guarded | go_step | go_upon | (simp only [Int.not_lt, Int.not_le] at *; go_simp) | (go_ite <;> go_prune <;> (try go_simp))))
  exact bodyPost_ret (v := .agg #[.int .i64 3, .int .i64 8, .int .i64 1]) (by simp [results, Tryd.results8, go_sem]) rfl ⟨rfl, by (show Ext _ _; repeat (first | with_reducible (refine Hid.out ?_; assumption) | with_reducible exact Ext.refl _ | with_reducible refine Ext.ext ?_ _ | with_reducible refine Ext.alloc ?_ _ | with_reducible refine Ext.drew ?_ | with_reducible refine Ext.setCell ?_ (by (try dsimp only); first | omega | (simp; done) | (simp; omega)) _))⟩

/-- Plain: the case is small. -/
def few20 (sw : List Swp) : Bool := (sw.take 4).all (fun x => decide (x.2.length ≤ 6)) && decide (sw.length ≤ 3)

section
variable (a0 a1 a2 a3 a4 a5 b0 b1 b2 b3 b4 b5 : Int)
set_option maxHeartbeats 2000000 in
theorem few20_any (sv : Value) (sw : List Swp) (w : World) (hv : Sl w 1 swE sv sw) (hk : ∀ a ∈ sw, SwOk w a) :
    Calls Tryd.prog 26 #[.agg #[.int .i8 a0, .int .i8 a1, .int .i8 a2, .int .i8 a3, .int .i8 a4, .int .i8 a5, .int .u8 b0, .int .u8 b1, .int .u8 b2, .int .u8 b3, .int .u8 b4, .int .u8 b5, sv]] w fun y w' => y = .returned (.bool (few20 sw)) ∧ ∃ r, w' = ext w r := by
  have HV := hid hv
  have HK := hid hk
  obtain ⟨a, c, rfl, ⟨hm, _⟩, hq⟩ := hv
  clear hq hk
  have hbnd : sw.length ≤ 9223372036854775807 := hm
  have HBd := hid hbnd
  clear hm hbnd
  go_enter Tryd.func26, Tryd.ntmps26
  go_wp2_with fail
  generalize hU : World.alloc _ _ = U
  have HEU := hid (show Ext w U by rw [← hU]; (show Ext _ _; repeat (first | with_reducible (refine Hid.out ?_; assumption) | with_reducible exact Ext.refl _ | with_reducible refine Ext.ext ?_ _ | with_reducible refine Ext.alloc ?_ _ | refine Ext.drew ?_ | refine Ext.drewN ?_ _ | exact Ext.refl _)))
  have HB := hid (show Blk U w.heap.size [.int .i8 a0, .int .i8 a1, .int .i8 a2, .int .i8 a3, .int .i8 a4, .int .i8 a5, .int .u8 b0, .int .u8 b1, .int .u8 b2, .int .u8 b3, .int .u8 b4, .int .u8 b5, .slice a sw.length c] by rw [← hU]; (show Blk _ _ _; repeat (first | with_reducible (refine Hid.out ?_; assumption) | with_reducible refine Blk.drew ?_ | with_reducible refine Blk.ext ?_ _ | (with_reducible refine Blk.new _ _ rfl ?_; first | with_reducible rfl | (simp; done)) | with_reducible refine Blk.alloc ?_ _ | with_reducible assumption | with_reducible apply Blk.setE | (with_reducible refine Blk.other' ?_ ?_; first | omega | (simp; omega)) | (show List.set _ _ _ = _; exact rfl) | (show _ < List.length _; simp; done))))
  clear hU
  have k0 := HB.out.2.2 12 _ rfl
  have k1 := HB.out.1
  go_loopw [3] (fun i wr => ∃ j : Nat, j ≤ 4 ∧ j ≤ sw.length ∧ i = .int .i64 j ∧ Hid ((sw.take j).all (fun x => decide (x.2.length ≤ 6)) = true) ∧ wr = U) (fun i _ => 4 - (intOf i).toNat)
  case atStart => exact ⟨0, by omega, by omega, rfl, hid rfl, rfl⟩
  case round =>
  obtain ⟨j, hj4, hj, rfl, HA, rfl⟩ := hrel
  by_cases hjl : j < sw.length
  · have hdj : decide (j < sw.length) = true := decide_eq_true hjl
    have hji : (j : Int) < (sw.length : Int) := by omega
    by_cases hj3 : j < 4
    · have hd4 : decide ((j : Int) < 4) = true := decide_eq_true (by omega)
      have hj4' : (j : Int) < 4 := by omega
      obtain ⟨⟨v, l⟩, hx⟩ : ∃ x, sw[j]? = some x := ⟨_, List.getElem?_eq_getElem hjl⟩
      have hok := HK.out _ (List.mem_of_getElem? hx)
      obtain ⟨_, bm, om, hab, hbm, hcm⟩ := Sl.at (HV.out.of swE_len HEU.out) hx
      subst hab
      have q0 := hcm 0 (by omega)
      simp [swE] at q0
      obtain ⟨⟨al, cl, hvl, _, _⟩, _⟩ := hok
      dsimp only at hvl
      subst hvl
      have HN := hid (show (sw.take (j + 1)).all (fun x => decide (x.2.length ≤ 6)) = decide (l.length ≤ 6) by
        obtain ⟨h1, h2⟩ := List.getElem?_eq_some_iff.1 hx
        rw [List.take_succ_eq_append_getElem h1, h2, List.all_append, HA.out]; simp)
      by_cases hl6 : (6 : Int) < (l.length : Int)
      · have HR := hid (show few20 sw = false by
          have h1 : (sw.take 4).all (fun x => decide (x.2.length ≤ 6)) = false := by
            rw [List.all_eq_false]
            refine ⟨_, List.mem_of_getElem? (i := j) (by rw [List.getElem?_take, if_pos hj3]; exact hx), ?_⟩
            simp; omega
          unfold few20; rw [h1]; rfl)
        have hd6 : decide ((6 : Int) < (l.length : Int)) = true := decide_eq_true hl6
        clear hx hcm
        go_wp2_with fail
        go_ret
        exact ⟨ret_bool HR.out.symm, HEU.out.trans (by (show Ext _ _; repeat (first | with_reducible (refine Hid.out ?_; assumption) | with_reducible exact Ext.refl _ | with_reducible refine Ext.ext ?_ _ | with_reducible refine Ext.alloc ?_ _ | refine Ext.drew ?_ | refine Ext.drewN ?_ _ | exact Ext.refl _)))⟩
      · have HN2 := hid (show (sw.take (j + 1)).all (fun x => decide (x.2.length ≤ 6)) = true by rw [HN.out]; exact decide_eq_true (by omega))
        have hd6 : decide ((6 : Int) < (l.length : Int)) = false := decide_eq_false hl6
        clear hx hcm
        go_wp2_with fail
        go_roundw
        case rel => exact ⟨j + 1, by omega, by omega, by go_num, HN2, by first | trivial | rfl⟩
        case measure => simp [intOf]; omega
    · obtain rfl : j = 4 := by omega
      have HR := hid (show few20 sw = false by unfold few20; rw [decide_eq_false (p := sw.length ≤ 3) (by omega)]; simp)
      have hd3 : decide ((sw.length : Int) ≤ 3) = false := decide_eq_false (by omega)
      clear hj3
      go_wp2_with fail
      go_ret
      exact ⟨ret_bool HR.out.symm, HEU.out.trans (by (show Ext _ _; repeat (first | with_reducible (refine Hid.out ?_; assumption) | with_reducible exact Ext.refl _ | with_reducible refine Ext.ext ?_ _ | with_reducible refine Ext.alloc ?_ _ | refine Ext.drew ?_ | refine Ext.drewN ?_ _ | exact Ext.refl _)))⟩
  · have hdj : decide (j < sw.length) = false := decide_eq_false hjl
    obtain rfl : j = sw.length := by omega
    have HR := hid (show few20 sw = decide ((sw.length : Int) ≤ 3) by
      have h1 : sw.take 4 = sw := List.take_of_length_le (by omega)
      rw [List.take_length] at HA
      unfold few20
      rw [h1, HA.out, Bool.true_and]
      by_cases h : sw.length ≤ 3
      · rw [decide_eq_true h, decide_eq_true (by omega)]
      · rw [decide_eq_false h, decide_eq_false (by omega)])
    go_wp2_with fail
    go_ret
    exact ⟨ret_bool HR.out.symm, HEU.out.trans (by (show Ext _ _; repeat (first | with_reducible (refine Hid.out ?_; assumption) | with_reducible exact Ext.refl _ | with_reducible refine Ext.ext ?_ _ | with_reducible refine Ext.alloc ?_ _ | refine Ext.drew ?_ | refine Ext.drewN ?_ _ | exact Ext.refl _)))⟩

set_option maxHeartbeats 2000000 in
theorem cell20_any (sv : Value) (a : Option Addr) (n c : Nat) (hsv : sv = .slice a n c) (i : Nat) (hi : i < 6) (u v : Int) (hu : [a0, a1, a2, a3, a4, a5][i]? = some u) (hv : [b0, b1, b2, b3, b4, b5][i]? = some v) (hub : -128 ≤ u ∧ u ≤ 127) (hvb : 0 ≤ v ∧ v ≤ 255) (w : World) :
    Calls Tryd.prog 51 #[.agg #[.int .i8 a0, .int .i8 a1, .int .i8 a2, .int .i8 a3, .int .i8 a4, .int .i8 a5, .int .u8 b0, .int .u8 b1, .int .u8 b2, .int .u8 b3, .int .u8 b4, .int .u8 b5, sv], .int .i64 i] w fun y w' => y = .returned (.agg #[.int .i64 u, .int .u32 v, .int .u32 0]) ∧ ∃ r, w' = ext w r := by
  subst hsv
  have hw1 : IntKind.i64.wrap u = u := IntWalk.i64_in _ (by omega)
  have hw2 : IntKind.u32.wrap v = v := wraps_u32w v (by omega) (by omega)
  have hii : (i : Int) < 6 := by omega
  have HU := hid hu
  have HV := hid hv
  clear hu hv
  go_enter Tryd.func51, Tryd.ntmps51
  go_upto_region 1 with fail
  generalize hY : World.alloc _ _ = Y
  have HEY := hid (show Ext w Y by rw [← hY]; (show Ext _ _; repeat (first | with_reducible (refine Hid.out ?_; assumption) | with_reducible exact Ext.refl _ | with_reducible refine Ext.ext ?_ _ | with_reducible refine Ext.alloc ?_ _ | refine Ext.drew ?_ | refine Ext.drewN ?_ _ | exact Ext.refl _)))
  have HB := hid (show Blk Y w.heap.size [.int .i8 a0, .int .i8 a1, .int .i8 a2, .int .i8 a3, .int .i8 a4, .int .i8 a5, .int .u8 b0, .int .u8 b1, .int .u8 b2, .int .u8 b3, .int .u8 b4, .int .u8 b5, .slice a n c] by rw [← hY]; (show Blk _ _ _; repeat (first | with_reducible (refine Hid.out ?_; assumption) | with_reducible refine Blk.drew ?_ | with_reducible refine Blk.ext ?_ _ | (with_reducible refine Blk.new _ _ rfl ?_; first | with_reducible rfl | (simp; done)) | with_reducible refine Blk.alloc ?_ _ | with_reducible assumption | with_reducible apply Blk.setE | (with_reducible refine Blk.other' ?_ ?_; first | omega | (simp; omega)) | (show List.set _ _ _ = _; exact rfl) | (show _ < List.length _; simp; done))))
  have HR := hid (show Blk Y (w.heap.size + 1) [.int .i64 0, .int .u32 0, .int .u32 0] by rw [← hY]; (show Blk _ _ _; repeat (first | with_reducible (refine Hid.out ?_; assumption) | with_reducible refine Blk.drew ?_ | with_reducible refine Blk.ext ?_ _ | (with_reducible refine Blk.new _ _ rfl ?_; first | with_reducible rfl | (simp; done)) | with_reducible refine Blk.alloc ?_ _ | with_reducible assumption | with_reducible apply Blk.setE | (with_reducible refine Blk.other' ?_ ?_; first | omega | (simp; omega)) | (show List.set _ _ _ = _; exact rfl) | (show _ < List.length _; simp; done))))
  have k0 := HB.out.2.2 i (.int .i8 u) (by
    match i, hi, HU.out with
    | 0, _, h => cases h; rfl
    | 1, _, h => cases h; rfl
    | 2, _, h => cases h; rfl
    | 3, _, h => cases h; rfl
    | 4, _, h => cases h; rfl
    | 5, _, h => cases h; rfl)
  have k1 := HB.out.2.2 (6 + i) (.int .u8 v) (by
    match i, hi, HV.out with
    | 0, _, h => cases h; rfl
    | 1, _, h => cases h; rfl
    | 2, _, h => cases h; rfl
    | 3, _, h => cases h; rfl
    | 4, _, h => cases h; rfl
    | 5, _, h => cases h; rfl)
  obtain ⟨r0, r1, r2⟩ := HR.out.three
  have f0 := HR.out.2.1 0
  have f1 := HR.out.2.1 1
  have f2 := HR.out.2.1 2
  have z0 := HB.out.1
  have z1 := HR.out.1
  generalize hnr : w.heap.size + 1 = nr at *
  have hne : w.heap.size ≠ nr := by omega
  clear hY
  refine wp_region_held_drew (S := fun w' => w'.cell? ⟨w.heap.size, i, none⟩ = some (.int .i8 u) ∧ w'.cell? ⟨w.heap.size, 6 + i, none⟩ = some (.int .u8 v)) (by kernel_rfl) (by exact ⟨(show Grn nr Y _ from by (show Grn _ _ _; repeat (first | with_reducible exact Grn.refl | with_reducible refine Grn.setCell ?_ _ _ | with_reducible refine Grn.ext ?_ _ | with_reducible refine Grn.alloc ?_ _ | with_reducible refine Grn.drew ?_))).cell hne k0, (show Grn nr Y _ from by (show Grn _ _ _; repeat (first | with_reducible exact Grn.refl | with_reducible refine Grn.setCell ?_ _ _ | with_reducible refine Grn.ext ?_ _ | with_reducible refine Grn.alloc ?_ _ | with_reducible refine Grn.drew ?_))).cell hne k1⟩) (fun hHeld => ?_)
  refine take_met 0 (oi := ⟨_, _, _, _, _, _⟩) (v := ?_) (by kernel_rfl) rfl (by rfl) (fun _ _ _ h => h) (by assumption) ?_ ?_
  rotate_left 1
  · intro w hSw
    try dsimp only at hSw
    go_simp
    try with_reducible rfl
  (try simp only [Act.put, List.setIfInBounds_toArray, List.set_cons_zero, List.set_cons_succ])
  refine take_met 1 (oi := ⟨_, _, _, _, _, _⟩) (v := ?_) (by kernel_rfl) rfl (by rfl) (fun _ _ _ h => h) (by assumption) ?_ ?_
  rotate_left 1
  · intro w hSw
    try dsimp only at hSw
    go_simp
    try with_reducible rfl
  (try simp only [Act.put, List.setIfInBounds_toArray, List.set_cons_zero, List.set_cons_succ])
  refine take_met 2 (oi := ⟨_, _, _, _, _, _⟩) (v := ?_) (by kernel_rfl) rfl (by rfl) (fun _ _ _ h => h) (by assumption) ?_ ?_
  rotate_left 1
  · intro w hSw
    try dsimp only at hSw
    go_simp
    try with_reducible rfl
  (try simp only [Act.put, List.setIfInBounds_toArray, List.set_cons_zero, List.set_cons_succ])
  refine take_met 3 (oi := ⟨_, _, _, _, _, _⟩) (v := ?_) (by kernel_rfl) rfl (by rfl) (fun _ _ _ h => h) (by assumption) ?_ ?_
  rotate_left 1
  · intro w hSw
    try dsimp only at hSw
    go_simp
    try with_reducible rfl
  (try simp only [Act.put, List.setIfInBounds_toArray, List.set_cons_zero, List.set_cons_succ])
  refine take_met 4 (oi := ⟨_, _, _, _, _, _⟩) (v := ?_) (by kernel_rfl) rfl (by rfl) (fun _ _ _ h => h) (by assumption) ?_ ?_
  rotate_left 1
  · intro w hSw
    try dsimp only at hSw
    go_simp
    try with_reducible rfl
  (try simp only [Act.put, List.setIfInBounds_toArray, List.set_cons_zero, List.set_cons_succ])
  refine take_met 5 (oi := ⟨_, _, _, _, _, _⟩) (v := ?_) (by kernel_rfl) rfl (by rfl) (fun _ _ _ h => h) (by assumption) ?_ ?_
  rotate_left 1
  · intro w hSw
    try dsimp only at hSw
    go_simp
    try with_reducible rfl
  (try simp only [Act.put, List.setIfInBounds_toArray, List.set_cons_zero, List.set_cons_succ])
  refine take_met 6 (oi := ⟨_, _, _, _, _, _⟩) (v := ?_) (by kernel_rfl) rfl (by rfl) (fun _ _ _ h => h) (by assumption) ?_ ?_
  rotate_left 1
  · intro w hSw
    try dsimp only at hSw
    go_simp
    try with_reducible rfl
  (try simp only [Act.put, List.setIfInBounds_toArray, List.set_cons_zero, List.set_cons_succ])
  refine take_met 7 (oi := ⟨_, _, _, _, _, _⟩) (v := ?_) (by kernel_rfl) rfl (by rfl) (fun _ _ _ h => h) (by assumption) ?_ ?_
  rotate_left 1
  · intro w hSw
    try dsimp only at hSw
    go_simp
    try with_reducible rfl
  (try simp only [Act.put, List.setIfInBounds_toArray, List.set_cons_zero, List.set_cons_succ])
  refine take_met 8 (oi := ⟨_, _, _, _, _, _⟩) (v := ?_) (by kernel_rfl) rfl (by rfl) (fun _ _ _ h => h) (by assumption) ?_ ?_
  rotate_left 1
  · intro w hSw
    try dsimp only at hSw
    go_simp
    try with_reducible rfl
  (try simp only [Act.put, List.setIfInBounds_toArray, List.set_cons_zero, List.set_cons_succ])
  refine take_met 9 (oi := ⟨_, _, _, _, _, _⟩) (v := ?_) (by kernel_rfl) rfl (by rfl) (fun _ _ _ h => h) (by assumption) ?_ ?_
  rotate_left 1
  · intro w hSw
    try dsimp only at hSw
    go_simp
    try with_reducible rfl
  (try simp only [Act.put, List.setIfInBounds_toArray, List.set_cons_zero, List.set_cons_succ])
  refine take_met 10 (oi := ⟨_, _, _, _, _, _⟩) (v := ?_) (by kernel_rfl) rfl (by rfl) (fun _ _ _ h => h) (by assumption) ?_ ?_
  rotate_left 1
  · intro w hSw
    try dsimp only at hSw
    go_simp
    try with_reducible rfl
  (try simp only [Act.put, List.setIfInBounds_toArray, List.set_cons_zero, List.set_cons_succ])
  refine take_only 11 (oi := ⟨_, _, _, _, _, _⟩) (by kernel_rfl) rfl (fun K hK => ?_)
  go_simp
  have hOld := hHeld
  clear hHeld
  refine hK.out _ _ (by exact ⟨(show Grn nr Y _ from by (show Grn _ _ _; repeat (first | with_reducible exact Grn.refl | with_reducible refine Grn.setCell ?_ _ _ | with_reducible refine Grn.ext ?_ _ | with_reducible refine Grn.alloc ?_ _ | with_reducible refine Grn.drew ?_))).cell hne k0, (show Grn nr Y _ from by (show Grn _ _ _; repeat (first | with_reducible exact Grn.refl | with_reducible refine Grn.setCell ?_ _ _ | with_reducible refine Grn.ext ?_ _ | with_reducible refine Grn.alloc ?_ _ | with_reducible refine Grn.drew ?_))).cell hne k1⟩) (fun hHeld => ?_)
  clear hOld hK K
  (try simp only [Act.put, List.setIfInBounds_toArray, List.set_cons_zero, List.set_cons_succ])
  refine wpAnyH_done (by kernel_rfl) ?_ _
  clear hHeld
  generalize hX : World.drew _ = X
  have HRX := hid (show Blk X nr [.int .i64 u, .int .u32 v, .int .u32 0] by rw [← hX]; exact Blk.drew (((HR.out.set 0 (by simp) _).set 1 (by simp) _).set 2 (by simp) _))
  have HEX := hid (show Ext w X by rw [← hX]; exact (((HEY.out.setCell (by dsimp only; omega) _).setCell (by dsimp only; omega) _).setCell (by dsimp only; omega) _).drew)
  obtain ⟨x0, x1, x2⟩ := HRX.out.three
  have x4 := HRX.out.1
  clear hX r0 r1 r2 f0 f1 f2
  (repeat (first | go_values | go_skip | go_guarded | go_step | go_upon | (simp only [Int.not_lt, Int.not_le] at *; go_simp) | (go_ite <;> go_prune <;> (try go_simp))))
  exact bodyPost_ret (v := .agg #[.int .i64 u, .int .u32 v, .int .u32 0]) (by simp [results, Tryd.results51, go_sem, x0, x1, x2, x4]) rfl ⟨rfl, by first | exact HEX.out | exact HEX.out.drew⟩
end

set_option maxHeartbeats 1000000 in
theorem ref20_any (q : Nat) (hq : q < 72) (w : World) :
    Calls Tryd.prog 54 #[.int .i64 ((q : Int) + 1)] w fun y w' => y = .returned (.int .u32 (((q : Int) + 1) * 16777216 + 1)) ∧ ∃ r, w' = ext w r := by
  have HR := hid (show refN ((q : Int) + 1) 1 = (((q : Int) + 1) * 16777216 + 1, 0) by unfold refN; rw [if_pos (by omega)])
  go_enter Tryd.func54, Tryd.ntmps54
  go_wp2_with fail
  refine (ref_any ((q : Int) + 1) 1 _).mono ?_
  rintro e w' ⟨rfl, r1, rfl⟩
  rw [HR.out]
  go_wp2_with fail
  go_ret
  exact ⟨rfl, by (show Ext _ _; repeat (first | with_reducible (refine Hid.out ?_; assumption) | with_reducible exact Ext.refl _ | with_reducible refine Ext.ext ?_ _ | with_reducible refine Ext.alloc ?_ _ | refine Ext.drew ?_ | refine Ext.drewN ?_ _ | exact Ext.refl _))⟩

theorem cell31 (i : Nat) (hi : i < 8) : atN 3 8 1 3 i 0 = 56 + i := by
  have h : i = 0 ∨ i = 1 ∨ i = 2 ∨ i = 3 ∨ i = 4 ∨ i = 5 ∨ i = 6 ∨ i = 7 := by omega
  rcases h with rfl | rfl | rfl | rfl | rfl | rfl | rfl | rfl
  · exact (show atN 3 8 1 3 0 0 = 56 by kernel_rfl)
  · exact (show atN 3 8 1 3 1 0 = 57 by kernel_rfl)
  · exact (show atN 3 8 1 3 2 0 = 58 by kernel_rfl)
  · exact (show atN 3 8 1 3 3 0 = 59 by kernel_rfl)
  · exact (show atN 3 8 1 3 4 0 = 60 by kernel_rfl)
  · exact (show atN 3 8 1 3 5 0 = 61 by kernel_rfl)
  · exact (show atN 3 8 1 3 6 0 = 62 by kernel_rfl)
  · exact (show atN 3 8 1 3 7 0 = 63 by kernel_rfl)

end Go.Proofs.YtfijnpfhffhffaaDoor
