/- The walk of the statement DescFields. -/
import Derived.Test.YtojcojghnhibmaaDoorAwkB
import Derived.Test.YtojcojghnhibmaaDoorPlanB
import Derived.Test.YtojcojghnhibmaaDoorPlaceLaw
namespace Go.Proofs.YtojcojghnhibmaaDoor
open Go.RowKit

set_option maxRecDepth 100000 in
set_option maxHeartbeats 4000000 in
theorem fields_any (x y z who a b : Int) (hx : 0 ≤ x ∧ x ≤ 255) (hy : 0 ≤ y ∧ y ≤ 255) (hz : 0 ≤ z ∧ z ≤ 255) (hwho : -9223372036854775808 ≤ who ∧ who ≤ 9223372036854775807)
    (ha : -9223372036854775808 ≤ a ∧ a ≤ 9223372036854775807) (hb : -9223372036854775808 ≤ b ∧ b ≤ 9223372036854775807) (w : World) (hs : Szs w) :
    Calls Tryd.prog 7 #[.agg #[.int .u8 x, .int .u8 y, .int .u8 z], .int .i64 who, .agg #[.int .i64 a, .int .i64 b]] w fun e w' => e = .returned (.bool true) ∧ ∃ r, w' = ext w r := by
  have HS := hid hs
  obtain ⟨hw1, hw2⟩ := hwho
  obtain ⟨ha1, ha2⟩ := ha
  obtain ⟨hb1, hb2⟩ := hb
  have HX := hid hx
  have HY := hid hy
  have HZ := hid hz
  clear hs hx hy hz
  have HF0 := hid (show fieldN 0 0 0 1 0 0 = (0, 1) by kernel_rfl)
  go_enter Tryd.func7, Tryd.ntmps7
  go_wp2_with fail
  refine (plan_any x y z HX.out HY.out HZ.out _ (HS.out.of (by (show Ext _ _; repeat (first | with_reducible (refine Hid.out ?_; assumption) | with_reducible exact Ext.refl _ | with_reducible refine Ext.ext ?_ _ | with_reducible refine Ext.alloc ?_ _ | refine Ext.drew ?_ | refine Ext.drewN ?_ _ | exact Ext.refl _))))).mono ?_
  rintro e w' ⟨T, C, B, sl, rm, sz, v, ⟨hT1, hT4⟩, ⟨hC1, hC4⟩, hB4, hsl, hrm, hsz, rfl, ⟨r1, rfl⟩, hsv⟩
  obtain ⟨hck, h7⟩ := plan_ok (T := T) (C := C) (B := B) (by omega) (by omega) (by omega)
  have hr : rightN T C B = true := by unfold rightN; rw [hck]; rfl
  have HPl := hid (place_law hr (by omega) hsl hrm who hw1 hw2)
  have hf := from_le7 (right_lok hr).1
  have hslb : (sl : Int) ≤ 100000 := by omega
  have hrmb : (rm : Int) ≤ 100000 := by rw [hrm]; split <;> omega
  obtain ⟨av, cv, rfl, _, _⟩ := hsv
  have HC := hid hck
  have hroom := hid (fun h => place_room (t := T) (c := C) (b := B) (who := who) h)
  have hbd := place_bd T C B who
  have HNeg := hid (fun h => place_neg (t := T) (c := C) (b := B) (who := who) h)
  obtain ⟨⟨pa, pm⟩, hp⟩ : ∃ p, p = placeN T C B who := ⟨_, rfl⟩
  rw [← hp] at HPl hroom hbd HNeg
  dsimp only at hroom hbd HNeg
  have hsz0 := hid (show sizeN T C B ≤ 2000 by unfold sizeN; rw [if_pos hr]; exact h7)
  have HFd := hid (show fieldN T C B who a b = if a < 0 ∨ pm ≤ a ∨ b < 0 ∨ 3 ≤ b then (0, 3) else (pa + (2 + 3 * a + b), 0) by unfold fieldN; rw [if_neg (by rw [hck]; simp), ← hp])
  clear hsl hrm hsz hck h7 hf hp
  obtain ⟨⟨hp1, hp2⟩, hp3, hp4⟩ := hbd
  have hcs : (pm = 0 ∧ pa = -1) ∨ (0 ≤ pa ∧ a < 0) ∨ (0 ≤ pa ∧ ¬ a < 0 ∧ pm ≤ a) ∨ (0 ≤ pa ∧ ¬ a < 0 ∧ ¬ pm ≤ a ∧ b < 0) ∨ (0 ≤ pa ∧ ¬ a < 0 ∧ ¬ pm ≤ a ∧ ¬ b < 0 ∧ 3 ≤ b) ∨ (0 ≤ pa ∧ ¬ a < 0 ∧ ¬ pm ≤ a ∧ ¬ b < 0 ∧ ¬ 3 ≤ b) := by
    by_cases h : pm = 0
    · have := HNeg.out h
      simp only [Prod.mk.injEq] at this
      exact .inl ⟨h, this.1⟩
    · have := hroom.out h
      omega
  clear HNeg hroom
  go_wp2_with fail
  refine (rplace_any T B sl rm who _ sz (by omega) (by omega) ⟨by omega, hslb⟩ ⟨by omega, hrmb⟩ _).mono ?_
  rintro e w' ⟨rfl, r2, rfl⟩
  rw [HPl.out]
  dsimp only
  go_wp2_with fail
  refine (field_any T C B who a b hw1 hw2 _ (HS.out.of (by (show Ext _ _; repeat (first | with_reducible (refine Hid.out ?_; assumption) | with_reducible exact Ext.refl _ | with_reducible refine Ext.ext ?_ _ | with_reducible refine Ext.alloc ?_ _ | refine Ext.drew ?_ | refine Ext.drewN ?_ _ | exact Ext.refl _))))).mono ?_
  rintro e w' ⟨rfl, r3, rfl⟩
  have hEq := eq_word 1 7 0 1 7 0
  rw [wdB_self] at hEq
  have hGa := eq_guard_word
  rcases hcs with ⟨h1, h2⟩ | ⟨h1, h2⟩ | ⟨h1, h2, h3⟩ | ⟨h1, h2, h3, h4⟩ | ⟨h1, h2, h3, h4, h5⟩ | ⟨h1, h2, h3, h4, h5⟩
  · have HR := hid (show fieldN T C B who a b = (0, 3) by rw [HFd.out, if_pos (by omega)])
    clear HFd HPl
    subst h1
    subst h2
    rw [HR.out]
    dsimp only
    go_wp2_with fail
    refine (field_any 0 0 0 1 0 0 (by omega) (by omega) _ (HS.out.of (by (show Ext _ _; repeat (first | with_reducible (refine Hid.out ?_; assumption) | with_reducible exact Ext.refl _ | with_reducible refine Ext.ext ?_ _ | with_reducible refine Ext.alloc ?_ _ | refine Ext.drew ?_ | refine Ext.drewN ?_ _ | exact Ext.refl _))))).mono ?_
    rintro e w' ⟨rfl, r4, rfl⟩
    rw [HF0.out]
    dsimp only
    go_wp2_with fail
    refine (status_any 1 7 (by omega) (by omega) _).mono ?_
    rintro e w' ⟨rfl, r5, rfl⟩
    go_wp2_with fail
    refine (dawake_any _ (HS.out.of (by (show Ext _ _; repeat (first | with_reducible (refine Hid.out ?_; assumption) | with_reducible exact Ext.refl _ | with_reducible refine Ext.ext ?_ _ | with_reducible refine Ext.alloc ?_ _ | refine Ext.drew ?_ | refine Ext.drewN ?_ _ | exact Ext.refl _))))).mono ?_
    rintro e w' ⟨rfl, r6, rfl⟩
    go_wp2_with fail
    go_ret
    exact ⟨rfl, by (show Ext _ _; repeat (first | with_reducible (refine Hid.out ?_; assumption) | with_reducible exact Ext.refl _ | with_reducible refine Ext.ext ?_ _ | with_reducible refine Ext.alloc ?_ _ | refine Ext.drew ?_ | refine Ext.drewN ?_ _ | exact Ext.refl _))⟩
  · have HR := hid (show fieldN T C B who a b = (0, 3) by rw [HFd.out, if_pos (by omega)])
    clear HFd HPl
    rw [HR.out]
    dsimp only
    go_wp2_with fail
    refine (field_any 0 0 0 1 0 0 (by omega) (by omega) _ (HS.out.of (by (show Ext _ _; repeat (first | with_reducible (refine Hid.out ?_; assumption) | with_reducible exact Ext.refl _ | with_reducible refine Ext.ext ?_ _ | with_reducible refine Ext.alloc ?_ _ | refine Ext.drew ?_ | refine Ext.drewN ?_ _ | exact Ext.refl _))))).mono ?_
    rintro e w' ⟨rfl, r4, rfl⟩
    rw [HF0.out]
    dsimp only
    go_wp2_with fail
    refine (status_any 1 7 (by omega) (by omega) _).mono ?_
    rintro e w' ⟨rfl, r5, rfl⟩
    go_wp2_with fail
    refine (dawake_any _ (HS.out.of (by (show Ext _ _; repeat (first | with_reducible (refine Hid.out ?_; assumption) | with_reducible exact Ext.refl _ | with_reducible refine Ext.ext ?_ _ | with_reducible refine Ext.alloc ?_ _ | refine Ext.drew ?_ | refine Ext.drewN ?_ _ | exact Ext.refl _))))).mono ?_
    rintro e w' ⟨rfl, r6, rfl⟩
    go_wp2_with fail
    go_ret
    exact ⟨rfl, by (show Ext _ _; repeat (first | with_reducible (refine Hid.out ?_; assumption) | with_reducible exact Ext.refl _ | with_reducible refine Ext.ext ?_ _ | with_reducible refine Ext.alloc ?_ _ | refine Ext.drew ?_ | refine Ext.drewN ?_ _ | exact Ext.refl _))⟩
  · have HR := hid (show fieldN T C B who a b = (0, 3) by rw [HFd.out, if_pos (by omega)])
    clear HFd HPl
    rw [HR.out]
    dsimp only
    go_wp2_with fail
    refine (field_any 0 0 0 1 0 0 (by omega) (by omega) _ (HS.out.of (by (show Ext _ _; repeat (first | with_reducible (refine Hid.out ?_; assumption) | with_reducible exact Ext.refl _ | with_reducible refine Ext.ext ?_ _ | with_reducible refine Ext.alloc ?_ _ | refine Ext.drew ?_ | refine Ext.drewN ?_ _ | exact Ext.refl _))))).mono ?_
    rintro e w' ⟨rfl, r4, rfl⟩
    rw [HF0.out]
    dsimp only
    go_wp2_with fail
    refine (status_any 1 7 (by omega) (by omega) _).mono ?_
    rintro e w' ⟨rfl, r5, rfl⟩
    go_wp2_with fail
    refine (dawake_any _ (HS.out.of (by (show Ext _ _; repeat (first | with_reducible (refine Hid.out ?_; assumption) | with_reducible exact Ext.refl _ | with_reducible refine Ext.ext ?_ _ | with_reducible refine Ext.alloc ?_ _ | refine Ext.drew ?_ | refine Ext.drewN ?_ _ | exact Ext.refl _))))).mono ?_
    rintro e w' ⟨rfl, r6, rfl⟩
    go_wp2_with fail
    go_ret
    exact ⟨rfl, by (show Ext _ _; repeat (first | with_reducible (refine Hid.out ?_; assumption) | with_reducible exact Ext.refl _ | with_reducible refine Ext.ext ?_ _ | with_reducible refine Ext.alloc ?_ _ | refine Ext.drew ?_ | refine Ext.drewN ?_ _ | exact Ext.refl _))⟩
  · have HR := hid (show fieldN T C B who a b = (0, 3) by rw [HFd.out, if_pos (by omega)])
    clear HFd HPl
    rw [HR.out]
    dsimp only
    go_wp2_with fail
    refine (field_any 0 0 0 1 0 0 (by omega) (by omega) _ (HS.out.of (by (show Ext _ _; repeat (first | with_reducible (refine Hid.out ?_; assumption) | with_reducible exact Ext.refl _ | with_reducible refine Ext.ext ?_ _ | with_reducible refine Ext.alloc ?_ _ | refine Ext.drew ?_ | refine Ext.drewN ?_ _ | exact Ext.refl _))))).mono ?_
    rintro e w' ⟨rfl, r4, rfl⟩
    rw [HF0.out]
    dsimp only
    go_wp2_with fail
    refine (status_any 1 7 (by omega) (by omega) _).mono ?_
    rintro e w' ⟨rfl, r5, rfl⟩
    go_wp2_with fail
    refine (dawake_any _ (HS.out.of (by (show Ext _ _; repeat (first | with_reducible (refine Hid.out ?_; assumption) | with_reducible exact Ext.refl _ | with_reducible refine Ext.ext ?_ _ | with_reducible refine Ext.alloc ?_ _ | refine Ext.drew ?_ | refine Ext.drewN ?_ _ | exact Ext.refl _))))).mono ?_
    rintro e w' ⟨rfl, r6, rfl⟩
    go_wp2_with fail
    go_ret
    exact ⟨rfl, by (show Ext _ _; repeat (first | with_reducible (refine Hid.out ?_; assumption) | with_reducible exact Ext.refl _ | with_reducible refine Ext.ext ?_ _ | with_reducible refine Ext.alloc ?_ _ | refine Ext.drew ?_ | refine Ext.drewN ?_ _ | exact Ext.refl _))⟩
  · have HR := hid (show fieldN T C B who a b = (0, 3) by rw [HFd.out, if_pos (by omega)])
    clear HFd HPl
    rw [HR.out]
    dsimp only
    go_wp2_with fail
    refine (field_any 0 0 0 1 0 0 (by omega) (by omega) _ (HS.out.of (by (show Ext _ _; repeat (first | with_reducible (refine Hid.out ?_; assumption) | with_reducible exact Ext.refl _ | with_reducible refine Ext.ext ?_ _ | with_reducible refine Ext.alloc ?_ _ | refine Ext.drew ?_ | refine Ext.drewN ?_ _ | exact Ext.refl _))))).mono ?_
    rintro e w' ⟨rfl, r4, rfl⟩
    rw [HF0.out]
    dsimp only
    go_wp2_with fail
    refine (status_any 1 7 (by omega) (by omega) _).mono ?_
    rintro e w' ⟨rfl, r5, rfl⟩
    go_wp2_with fail
    refine (dawake_any _ (HS.out.of (by (show Ext _ _; repeat (first | with_reducible (refine Hid.out ?_; assumption) | with_reducible exact Ext.refl _ | with_reducible refine Ext.ext ?_ _ | with_reducible refine Ext.alloc ?_ _ | refine Ext.drew ?_ | refine Ext.drewN ?_ _ | exact Ext.refl _))))).mono ?_
    rintro e w' ⟨rfl, r6, rfl⟩
    go_wp2_with fail
    go_ret
    exact ⟨rfl, by (show Ext _ _; repeat (first | with_reducible (refine Hid.out ?_; assumption) | with_reducible exact Ext.refl _ | with_reducible refine Ext.ext ?_ _ | with_reducible refine Ext.alloc ?_ _ | refine Ext.drew ?_ | refine Ext.drewN ?_ _ | exact Ext.refl _))⟩
  · have HR := hid (show fieldN T C B who a b = (pa + (2 + 3 * a + b), 0) by rw [HFd.out, if_neg (by omega)])
    have h6 : b ≤ 2 := by omega
    clear HFd HPl
    rw [HR.out]
    dsimp only
    have h7 : 0 ≤ a := by omega
    have h8 : 0 ≤ b := by omega
    have hne : (pa + (2 + 3 * a + b) != pa + 2 + 3 * a + b) = false := by simp; omega
    go_wp2_with fail
    refine (field_any 0 0 0 1 0 0 (by omega) (by omega) _ (HS.out.of (by (show Ext _ _; repeat (first | with_reducible (refine Hid.out ?_; assumption) | with_reducible exact Ext.refl _ | with_reducible refine Ext.ext ?_ _ | with_reducible refine Ext.alloc ?_ _ | refine Ext.drew ?_ | refine Ext.drewN ?_ _ | exact Ext.refl _))))).mono ?_
    rintro e w' ⟨rfl, r4, rfl⟩
    rw [HF0.out]
    dsimp only
    go_wp2_with fail
    refine (status_any 1 7 (by omega) (by omega) _).mono ?_
    rintro e w' ⟨rfl, r5, rfl⟩
    go_wp2_with fail
    refine (dawake_any _ (HS.out.of (by (show Ext _ _; repeat (first | with_reducible (refine Hid.out ?_; assumption) | with_reducible exact Ext.refl _ | with_reducible refine Ext.ext ?_ _ | with_reducible refine Ext.alloc ?_ _ | refine Ext.drew ?_ | refine Ext.drewN ?_ _ | exact Ext.refl _))))).mono ?_
    rintro e w' ⟨rfl, r6, rfl⟩
    go_wp2_with fail
    go_ret
    exact ⟨rfl, by (show Ext _ _; repeat (first | with_reducible (refine Hid.out ?_; assumption) | with_reducible exact Ext.refl _ | with_reducible refine Ext.ext ?_ _ | with_reducible refine Ext.alloc ?_ _ | refine Ext.drew ?_ | refine Ext.drewN ?_ _ | exact Ext.refl _))⟩

end Go.Proofs.YtojcojghnhibmaaDoor
