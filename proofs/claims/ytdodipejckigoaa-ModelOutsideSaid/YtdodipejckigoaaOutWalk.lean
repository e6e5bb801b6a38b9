/- The walk of the statement ModelOutside. -/
import Derived.Test.YtdodipejckigoaaLawN
import Derived.Test.YtdodipejckigoaaOpen
namespace Go.Proofs.Ytdodipejckigoaa
open Go.RowKit

set_option maxHeartbeats 2000000 in
theorem lout_any (w : World) (l : List Wd) (v : Value) (hv : Wsl w v l) (_ : ∀ a ∈ l, WdOk a) (x : Int) (_ : -9223372036854775808 ≤ x ∧ x ≤ 9223372036854775807) :
    Calls Try.prog 4 #[v, .int .i64 x] w fun y w' => y = .returned (.bool true) ∧ ∃ r, w' = ext w r := by
  have HV := hid hv
  have hek := eq_word
  have heg := eq_guard_word
  obtain ⟨a, c, rfl, ⟨hm, hlc⟩, _⟩ := hv
  by_cases h20 : l.length ≤ 20
  · have h20' : ¬ (20 : Int) < (l.length : Int) := by omega
    have hz : atW [] x = ((0, 0, 0), false) := by unfold atW; split <;> simp
    have HZ := hid hz
    have hw0 : wdB (0, 0, 0) (0, 0, 0) = true := wdB_self _
    have HL := hid (show (newL l).length = l.length by simp [newL])
    clear hz
    by_cases hx : 0 ≤ x ∧ x < (l.length : Int)
    · have hx0 : ¬ x < 0 := by omega
      have hx1 : ¬ (l.length : Int) ≤ x := by omega
      obtain ⟨e, he⟩ : ∃ e, atW (newL l) x = (e, true) := by
        have h1 : x.toNat < (newL l).length := by rw [HL.out]; omega
        exact ⟨_, by unfold atW; rw [if_pos hx.1, List.getElem?_eq_getElem h1]⟩
      have HA := hid he
      clear he hx
      go_enter Try.func4, Try.ntmps4
      go_wp2_with fail
      go_call (new_any l _ _ (by omega) (HV.out.of wdE_len (by (show Ext _ _; repeat (first | exact Ext.refl _ | refine Ext.ext ?_ _ | refine Ext.alloc ?_ _ | refine Ext.drew ?_ | refine Ext.drewN ?_ _))))) as y w' ⟨v1, rfl, ⟨r1, rfl⟩, hv1⟩
      have HM := hid (Sl.of_own wdE_len hv1)
      clear hv1
      go_wp2_with fail
      go_call (at_any (newL l) _ x _ (HM.out.of wdE_len (by (show Ext _ _; repeat (first | exact Ext.refl _ | refine Ext.ext ?_ _ | refine Ext.alloc ?_ _ | refine Ext.drew ?_ | refine Ext.drewN ?_ _))))) as y w' ⟨rfl, r2, rfl⟩
      rw [HA.out]
      go_wp2_with fail
      go_call (at_any [] _ x _ Sl.nil) as y w' ⟨rfl, r3, rfl⟩
      rw [HZ.out]
      go_wp2_with fail
      go_call (awake_any _) as y w' ⟨rfl, r4, rfl⟩
      go_wp2_with fail
      go_call (len_any [] _ _ Sl.nil) as y w' ⟨rfl, r5, rfl⟩
      go_wp2_with fail
      go_call (holds_any [] [] _ _ _ Sl.nil Sl.nil) as y w' ⟨rfl, r6, rfl⟩
      go_wp2_with fail
      go_call (new_any [] _ _ (by simp) Sl.nil) as y w' ⟨v2, rfl, ⟨r7, rfl⟩, hv2⟩
      have HM2 := hid (Sl.of_own wdE_len hv2)
      clear hv2
      go_wp2_with fail
      go_call (len_any (newL []) _ _ (HM2.out.of wdE_len (by (show Ext _ _; repeat (first | exact Ext.refl _ | refine Ext.ext ?_ _ | refine Ext.alloc ?_ _ | refine Ext.drew ?_ | refine Ext.drewN ?_ _))))) as y w' ⟨rfl, r8, rfl⟩
      have hl0 : (newL []).length = 0 := rfl
      rw [hl0]
      go_wp2_with fail
      go_ret
      exact ⟨by show Ending.returned (Value.bool (!decide (x < 0) && !decide ((l.length : Int) ≤ x))) = Ending.returned (Value.bool true); simp [hx0, hx1], by (show Ext _ _; repeat (first | exact Ext.refl _ | refine Ext.ext ?_ _ | refine Ext.alloc ?_ _ | refine Ext.drew ?_ | refine Ext.drewN ?_ _))⟩
    · have he : atW (newL l) x = ((0, 0, 0), false) := by
        by_cases h0 : 0 ≤ x
        · unfold atW; rw [if_pos h0, List.getElem?_eq_none (by rw [HL.out]; omega)]
        · unfold atW; rw [if_neg h0]
      have HA := hid he
      by_cases hx0 : x < 0
      · clear he hx
        go_enter Try.func4, Try.ntmps4
        go_wp2_with fail
        go_call (new_any l _ _ (by omega) (HV.out.of wdE_len (by (show Ext _ _; repeat (first | exact Ext.refl _ | refine Ext.ext ?_ _ | refine Ext.alloc ?_ _ | refine Ext.drew ?_ | refine Ext.drewN ?_ _))))) as y w' ⟨v1, rfl, ⟨r1, rfl⟩, hv1⟩
        have HM := hid (Sl.of_own wdE_len hv1)
        clear hv1
        go_wp2_with fail
        go_call (at_any (newL l) _ x _ (HM.out.of wdE_len (by (show Ext _ _; repeat (first | exact Ext.refl _ | refine Ext.ext ?_ _ | refine Ext.alloc ?_ _ | refine Ext.drew ?_ | refine Ext.drewN ?_ _))))) as y w' ⟨rfl, r2, rfl⟩
        rw [HA.out]
        go_wp2_with fail
        go_call (at_any [] _ x _ Sl.nil) as y w' ⟨rfl, r3, rfl⟩
        rw [HZ.out]
        go_wp2_with fail
        go_call (awake_any _) as y w' ⟨rfl, r4, rfl⟩
        go_wp2_with fail
        go_call (len_any [] _ _ Sl.nil) as y w' ⟨rfl, r5, rfl⟩
        go_wp2_with fail
        go_call (holds_any [] [] _ _ _ Sl.nil Sl.nil) as y w' ⟨rfl, r6, rfl⟩
        go_wp2_with fail
        go_call (new_any [] _ _ (by simp) Sl.nil) as y w' ⟨v2, rfl, ⟨r7, rfl⟩, hv2⟩
        have HM2 := hid (Sl.of_own wdE_len hv2)
        clear hv2
        go_wp2_with fail
        go_call (len_any (newL []) _ _ (HM2.out.of wdE_len (by (show Ext _ _; repeat (first | exact Ext.refl _ | refine Ext.ext ?_ _ | refine Ext.alloc ?_ _ | refine Ext.drew ?_ | refine Ext.drewN ?_ _))))) as y w' ⟨rfl, r8, rfl⟩
        have hl0 : (newL []).length = 0 := rfl
        rw [hl0]
        go_wp2_with fail
        go_ret
        exact ⟨rfl, by (show Ext _ _; repeat (first | exact Ext.refl _ | refine Ext.ext ?_ _ | refine Ext.alloc ?_ _ | refine Ext.drew ?_ | refine Ext.drewN ?_ _))⟩
      · have hx1 : (l.length : Int) ≤ x := by omega
        clear he hx
        go_enter Try.func4, Try.ntmps4
        go_wp2_with fail
        go_call (new_any l _ _ (by omega) (HV.out.of wdE_len (by (show Ext _ _; repeat (first | exact Ext.refl _ | refine Ext.ext ?_ _ | refine Ext.alloc ?_ _ | refine Ext.drew ?_ | refine Ext.drewN ?_ _))))) as y w' ⟨v1, rfl, ⟨r1, rfl⟩, hv1⟩
        have HM := hid (Sl.of_own wdE_len hv1)
        clear hv1
        go_wp2_with fail
        go_call (at_any (newL l) _ x _ (HM.out.of wdE_len (by (show Ext _ _; repeat (first | exact Ext.refl _ | refine Ext.ext ?_ _ | refine Ext.alloc ?_ _ | refine Ext.drew ?_ | refine Ext.drewN ?_ _))))) as y w' ⟨rfl, r2, rfl⟩
        rw [HA.out]
        go_wp2_with fail
        go_call (at_any [] _ x _ Sl.nil) as y w' ⟨rfl, r3, rfl⟩
        rw [HZ.out]
        go_wp2_with fail
        go_call (awake_any _) as y w' ⟨rfl, r4, rfl⟩
        go_wp2_with fail
        go_call (len_any [] _ _ Sl.nil) as y w' ⟨rfl, r5, rfl⟩
        go_wp2_with fail
        go_call (holds_any [] [] _ _ _ Sl.nil Sl.nil) as y w' ⟨rfl, r6, rfl⟩
        go_wp2_with fail
        go_call (new_any [] _ _ (by simp) Sl.nil) as y w' ⟨v2, rfl, ⟨r7, rfl⟩, hv2⟩
        have HM2 := hid (Sl.of_own wdE_len hv2)
        clear hv2
        go_wp2_with fail
        go_call (len_any (newL []) _ _ (HM2.out.of wdE_len (by (show Ext _ _; repeat (first | exact Ext.refl _ | refine Ext.ext ?_ _ | refine Ext.alloc ?_ _ | refine Ext.drew ?_ | refine Ext.drewN ?_ _))))) as y w' ⟨rfl, r8, rfl⟩
        have hl0 : (newL []).length = 0 := rfl
        rw [hl0]
        go_wp2_with fail
        go_ret
        exact ⟨rfl, by (show Ext _ _; repeat (first | exact Ext.refl _ | refine Ext.ext ?_ _ | refine Ext.alloc ?_ _ | refine Ext.drew ?_ | refine Ext.drewN ?_ _))⟩
  · have h20' : (20 : Int) < (l.length : Int) := by omega
    clear h20
    go_enter Try.func4, Try.ntmps4
    go_wp2_with fail
    go_call (awake_any _) as y w' ⟨rfl, r1, rfl⟩
    go_wp2_with fail
    go_ret
    exact ⟨rfl, by (show Ext _ _; repeat (first | exact Ext.refl _ | refine Ext.ext ?_ _ | refine Ext.alloc ?_ _ | refine Ext.drew ?_ | refine Ext.drewN ?_ _))⟩

end Go.Proofs.Ytdodipejckigoaa
