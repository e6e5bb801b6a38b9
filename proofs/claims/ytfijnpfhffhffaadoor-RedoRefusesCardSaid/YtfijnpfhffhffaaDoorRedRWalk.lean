/- The walk of the statement RedoRefuses. -/
import Derived.Test.YtfijnpfhffhffaaDoorRedE
namespace Go.Proofs.YtfijnpfhffhffaaDoor
set_option linter.unusedSimpArgs false
set_option linter.unusedVariables false
open Go.RowKit

theorem eq_nil25 (w : World) : (binOp .eql 66 .nilIface .nilIface).run Tryd.prog w = .ok (.bool true) w := by kernel_rfl
theorem neq_code25 (v : Value) (w : World) : (binOp .neq 66 (.iface 98 v) .nilIface).run Tryd.prog w = .ok (.bool true) w := by kernel_rfl

set_option maxRecDepth 100000 in
set_option maxHeartbeats 4000000 in
theorem redr_any (lt lc lb : Int) (wv : Value) (ws : List Wd) (w : World) (hs : Szs w) (hw : Wsl w wv ws) (hok : ∀ a ∈ ws, WdOk a) :
    Calls Tryd.prog 5 #[.agg #[.int .i64 lt, .int .i64 lc, .int .i64 lb], wv] w fun y w' => y = .returned (.bool true) ∧ ∃ r, w' = ext w r := by
  have HS := hid hs
  have HW := hid hw
  have HO := hid hok
  obtain ⟨a, cp, rfl, hq1, hq2⟩ := hw
  clear hq1 hq2 hs hok
  by_cases hbig : (4096 : Int) < (ws.length : Int)
  · go_enter Tryd.func5, Tryd.ntmps5
    go_wp2_with fail
    refine (awake25_any _ (HS.out.of (by (show Ext _ _; repeat (first | with_reducible (refine Hid.out ?_; assumption) | with_reducible exact Ext.refl _ | with_reducible refine Ext.ext ?_ _ | with_reducible refine Ext.alloc ?_ _ | refine Ext.drew ?_ | refine Ext.drewN ?_ _ | exact Ext.refl _))))).mono ?_
    rintro e w' ⟨rfl, r1, rfl⟩
    go_wp2_with fail
    go_ret
    exact ⟨rfl, by (show Ext _ _; repeat (first | with_reducible (refine Hid.out ?_; assumption) | with_reducible exact Ext.refl _ | with_reducible refine Ext.ext ?_ _ | with_reducible refine Ext.alloc ?_ _ | refine Ext.drew ?_ | refine Ext.drewN ?_ _ | exact Ext.refl _))⟩
  have hll : ws.length ≤ 10000 := by omega
  have HLl := hid hll
  by_cases h1 : checkN lt lc lb = 0
  rotate_left
  · have H1 := hid h1
    have HR := hid (show redoN lt lc lb ws = ([], 1) by unfold redoN; rw [if_pos (.inl h1)])
    have HC := hid (show cleanN lt lc lb ws = false by unfold cleanN; rw [if_pos (.inl h1)])
    have hb : (checkN lt lc lb != 0) = true := by simpa using h1
    have hen := eq_nil25
    clear h1 hll
    go_enter Tryd.func5, Tryd.ntmps5
    go_wp2_with fail
    refine (awake25_any _ (HS.out.of (by (show Ext _ _; repeat (first | with_reducible (refine Hid.out ?_; assumption) | with_reducible exact Ext.refl _ | with_reducible refine Ext.ext ?_ _ | with_reducible refine Ext.alloc ?_ _ | refine Ext.drew ?_ | refine Ext.drewN ?_ _ | exact Ext.refl _))))).mono ?_
    rintro e w' ⟨rfl, r1, rfl⟩
    go_wp2_with fail
    refine (rnew_bad lt lc lb H1.out _ (HS.out.of (by (show Ext _ _; repeat (first | with_reducible (refine Hid.out ?_; assumption) | with_reducible exact Ext.refl _ | with_reducible refine Ext.ext ?_ _ | with_reducible refine Ext.alloc ?_ _ | refine Ext.drew ?_ | refine Ext.drewN ?_ _ | exact Ext.refl _))))).mono ?_
    rintro e w' ⟨rfl, r2, rfl⟩
    go_wp2_with fail
    refine (rwords_any lt lc lb ws _ HO.out HLl.out _ (HS.out.of (by (show Ext _ _; repeat (first | with_reducible (refine Hid.out ?_; assumption) | with_reducible exact Ext.refl _ | with_reducible refine Ext.ext ?_ _ | with_reducible refine Ext.alloc ?_ _ | refine Ext.drew ?_ | refine Ext.drewN ?_ _ | exact Ext.refl _)))) (HW.out.of wdE_len (by (show Ext _ _; repeat (first | with_reducible (refine Hid.out ?_; assumption) | with_reducible exact Ext.refl _ | with_reducible refine Ext.ext ?_ _ | with_reducible refine Ext.alloc ?_ _ | refine Ext.drew ?_ | refine Ext.drewN ?_ _ | exact Ext.refl _))))).mono ?_
    rintro y w' ⟨v6, rfl, ⟨r3, rfl⟩, hv6⟩
    rw [HR.out] at hv6 ⊢
    dsimp only at hv6 ⊢
    obtain ⟨a6, c6, rfl⟩ := Own.shape hv6
    simp only [List.length_nil]
    clear hv6
    go_wp2_with fail
    refine (fin_nil _).mono ?_
    rintro e w' ⟨rfl, r4, rfl⟩
    go_wp2_with fail
    refine (fin_nil _).mono ?_
    rintro e w' ⟨rfl, r5, rfl⟩
    go_wp2_with fail
    refine (check_any lt lc lb _ (HS.out.of (by (show Ext _ _; repeat (first | with_reducible (refine Hid.out ?_; assumption) | with_reducible exact Ext.refl _ | with_reducible refine Ext.ext ?_ _ | with_reducible refine Ext.alloc ?_ _ | refine Ext.drew ?_ | refine Ext.drewN ?_ _ | exact Ext.refl _))))).mono ?_
    rintro e w' ⟨rfl, r6, rfl⟩
    go_wp2_with fail
    refine (rclean_any lt lc lb ws _ HLl.out _ (HS.out.of (by (show Ext _ _; repeat (first | with_reducible (refine Hid.out ?_; assumption) | with_reducible exact Ext.refl _ | with_reducible refine Ext.ext ?_ _ | with_reducible refine Ext.alloc ?_ _ | refine Ext.drew ?_ | refine Ext.drewN ?_ _ | exact Ext.refl _)))) (HW.out.of wdE_len (by (show Ext _ _; repeat (first | with_reducible (refine Hid.out ?_; assumption) | with_reducible exact Ext.refl _ | with_reducible refine Ext.ext ?_ _ | with_reducible refine Ext.alloc ?_ _ | refine Ext.drew ?_ | refine Ext.drewN ?_ _ | exact Ext.refl _))))).mono ?_
    rintro e w' ⟨rfl, r7, rfl⟩
    rw [HC.out]
    go_wp2_with fail
    go_ret
    exact ⟨rfl, by (show Ext _ _; repeat (first | with_reducible (refine Hid.out ?_; assumption) | with_reducible exact Ext.refl _ | with_reducible refine Ext.ext ?_ _ | with_reducible refine Ext.alloc ?_ _ | refine Ext.drew ?_ | refine Ext.drewN ?_ _ | exact Ext.refl _))⟩
  have H1 := hid h1
  obtain ⟨n, hn⟩ := Int.eq_ofNat_of_zero_le (size_le lt lc lb).1
  have HN := hid hn
  have hnc := neq_code25
  by_cases h2 : ws.length < n
  · have HR := hid (show redoN lt lc lb ws = ([], 1) by unfold redoN; rw [if_pos (.inr (by rw [hn]; omega))])
    have hd : decide (n ≤ ws.length) = false := decide_eq_false (by omega)
    clear h1 hll hn
    go_enter Tryd.func5, Tryd.ntmps5
    go_wp2_with fail
    refine (awake25_any _ (HS.out.of (by (show Ext _ _; repeat (first | with_reducible (refine Hid.out ?_; assumption) | with_reducible exact Ext.refl _ | with_reducible refine Ext.ext ?_ _ | with_reducible refine Ext.alloc ?_ _ | refine Ext.drew ?_ | refine Ext.drewN ?_ _ | exact Ext.refl _))))).mono ?_
    rintro e w' ⟨rfl, r1, rfl⟩
    go_wp2_with fail
    refine (rnew_good lt lc lb H1.out _ (HS.out.of (by (show Ext _ _; repeat (first | with_reducible (refine Hid.out ?_; assumption) | with_reducible exact Ext.refl _ | with_reducible refine Ext.ext ?_ _ | with_reducible refine Ext.alloc ?_ _ | refine Ext.drew ?_ | refine Ext.drewN ?_ _ | exact Ext.refl _))))).mono ?_
    rintro e w' ⟨⟨a1, a2, a3, m1, c1, m2, c2, m3, c3, rfl⟩, r2, rfl⟩
    go_wp2_with fail
    refine (rwords_any lt lc lb ws _ HO.out HLl.out _ (HS.out.of (by (show Ext _ _; repeat (first | with_reducible (refine Hid.out ?_; assumption) | with_reducible exact Ext.refl _ | with_reducible refine Ext.ext ?_ _ | with_reducible refine Ext.alloc ?_ _ | refine Ext.drew ?_ | refine Ext.drewN ?_ _ | exact Ext.refl _)))) (HW.out.of wdE_len (by (show Ext _ _; repeat (first | with_reducible (refine Hid.out ?_; assumption) | with_reducible exact Ext.refl _ | with_reducible refine Ext.ext ?_ _ | with_reducible refine Ext.alloc ?_ _ | refine Ext.drew ?_ | refine Ext.drewN ?_ _ | exact Ext.refl _))))).mono ?_
    rintro y w' ⟨v6, rfl, ⟨r3, rfl⟩, hv6⟩
    rw [HR.out] at hv6 ⊢
    dsimp only at hv6 ⊢
    obtain ⟨a6, c6, rfl⟩ := Own.shape hv6
    simp only [List.length_nil]
    clear hv6
    go_wp2_with fail
    refine (fin_nil _).mono ?_
    rintro e w' ⟨rfl, r4, rfl⟩
    go_wp2_with fail
    refine (fin_code lt lc lb a1 a2 a3 m1 c1 m2 c2 m3 c3 _).mono ?_
    rintro e w' ⟨rfl, r5, rfl⟩
    go_wp2_with fail
    refine (check_any lt lc lb _ (HS.out.of (by (show Ext _ _; repeat (first | with_reducible (refine Hid.out ?_; assumption) | with_reducible exact Ext.refl _ | with_reducible refine Ext.ext ?_ _ | with_reducible refine Ext.alloc ?_ _ | refine Ext.drew ?_ | refine Ext.drewN ?_ _ | exact Ext.refl _))))).mono ?_
    rintro e w' ⟨rfl, r6, rfl⟩
    rw [H1.out]
    go_wp2_with fail
    refine (size_any lt lc lb _ (HS.out.of (by (show Ext _ _; repeat (first | with_reducible (refine Hid.out ?_; assumption) | with_reducible exact Ext.refl _ | with_reducible refine Ext.ext ?_ _ | with_reducible refine Ext.alloc ?_ _ | refine Ext.drew ?_ | refine Ext.drewN ?_ _ | exact Ext.refl _))))).mono ?_
    rintro e w' ⟨rfl, r7, rfl⟩
    rw [HN.out]
    go_wp2_with fail
    go_ret
    exact ⟨rfl, by (show Ext _ _; repeat (first | with_reducible (refine Hid.out ?_; assumption) | with_reducible exact Ext.refl _ | with_reducible refine Ext.ext ?_ _ | with_reducible refine Ext.alloc ?_ _ | refine Ext.drew ?_ | refine Ext.drewN ?_ _ | exact Ext.refl _))⟩
  · have HR := hid (show redoN lt lc lb ws = (redoL lt lc lb ws, 0) by unfold redoN; rw [if_neg (by rintro (h | h); exact h h1; rw [hn] at h; omega)])
    have hd : decide (n ≤ ws.length) = true := decide_eq_true (by omega)
    clear h1 hll hn
    go_enter Tryd.func5, Tryd.ntmps5
    go_wp2_with fail
    refine (awake25_any _ (HS.out.of (by (show Ext _ _; repeat (first | with_reducible (refine Hid.out ?_; assumption) | with_reducible exact Ext.refl _ | with_reducible refine Ext.ext ?_ _ | with_reducible refine Ext.alloc ?_ _ | refine Ext.drew ?_ | refine Ext.drewN ?_ _ | exact Ext.refl _))))).mono ?_
    rintro e w' ⟨rfl, r1, rfl⟩
    go_wp2_with fail
    refine (rnew_good lt lc lb H1.out _ (HS.out.of (by (show Ext _ _; repeat (first | with_reducible (refine Hid.out ?_; assumption) | with_reducible exact Ext.refl _ | with_reducible refine Ext.ext ?_ _ | with_reducible refine Ext.alloc ?_ _ | refine Ext.drew ?_ | refine Ext.drewN ?_ _ | exact Ext.refl _))))).mono ?_
    rintro e w' ⟨⟨a1, a2, a3, m1, c1, m2, c2, m3, c3, rfl⟩, r2, rfl⟩
    go_wp2_with fail
    refine (rwords_any lt lc lb ws _ HO.out HLl.out _ (HS.out.of (by (show Ext _ _; repeat (first | with_reducible (refine Hid.out ?_; assumption) | with_reducible exact Ext.refl _ | with_reducible refine Ext.ext ?_ _ | with_reducible refine Ext.alloc ?_ _ | refine Ext.drew ?_ | refine Ext.drewN ?_ _ | exact Ext.refl _)))) (HW.out.of wdE_len (by (show Ext _ _; repeat (first | with_reducible (refine Hid.out ?_; assumption) | with_reducible exact Ext.refl _ | with_reducible refine Ext.ext ?_ _ | with_reducible refine Ext.alloc ?_ _ | refine Ext.drew ?_ | refine Ext.drewN ?_ _ | exact Ext.refl _))))).mono ?_
    rintro y w' ⟨v6, rfl, ⟨r3, rfl⟩, hv6⟩
    rw [HR.out] at hv6 ⊢
    dsimp only at hv6 ⊢
    obtain ⟨a6, c6, rfl⟩ := Own.shape hv6
    clear hv6
    go_wp2_with fail
    refine (fin_nil _).mono ?_
    rintro e w' ⟨rfl, r4, rfl⟩
    go_wp2_with fail
    refine (fin_code lt lc lb a1 a2 a3 m1 c1 m2 c2 m3 c3 _).mono ?_
    rintro e w' ⟨rfl, r5, rfl⟩
    go_wp2_with fail
    refine (check_any lt lc lb _ (HS.out.of (by (show Ext _ _; repeat (first | with_reducible (refine Hid.out ?_; assumption) | with_reducible exact Ext.refl _ | with_reducible refine Ext.ext ?_ _ | with_reducible refine Ext.alloc ?_ _ | refine Ext.drew ?_ | refine Ext.drewN ?_ _ | exact Ext.refl _))))).mono ?_
    rintro e w' ⟨rfl, r6, rfl⟩
    rw [H1.out]
    go_wp2_with fail
    refine (size_any lt lc lb _ (HS.out.of (by (show Ext _ _; repeat (first | with_reducible (refine Hid.out ?_; assumption) | with_reducible exact Ext.refl _ | with_reducible refine Ext.ext ?_ _ | with_reducible refine Ext.alloc ?_ _ | refine Ext.drew ?_ | refine Ext.drewN ?_ _ | exact Ext.refl _))))).mono ?_
    rintro e w' ⟨rfl, r7, rfl⟩
    rw [HN.out]
    go_wp2_with fail
    go_ret
    exact ⟨rfl, by (show Ext _ _; repeat (first | with_reducible (refine Hid.out ?_; assumption) | with_reducible exact Ext.refl _ | with_reducible refine Ext.ext ?_ _ | with_reducible refine Ext.alloc ?_ _ | refine Ext.drew ?_ | refine Ext.drewN ?_ _ | exact Ext.refl _))⟩

end Go.Proofs.YtfijnpfhffhffaaDoor
