/- Walks of small functions of law 19: great, the reference's Place, May. -/
import Derived.Test.YtfijnpfhffhffaaDoorDescF
namespace Go.Proofs.YtfijnpfhffhffaaDoor
set_option linter.unusedSimpArgs false
set_option linter.unusedVariables false
open Go.RowKit

/-- Plain: where the reference lays a descriptor. -/
def rplaceN (T B sl rm who : Int) : Int × Int :=
  if 1 ≤ who ∧ who ≤ T then (sl + (who - 1) * 104, 32) else if 9 ≤ who ∧ who < 9 + B then (rm + (who - 9) * 32, 10) else (-1, 0)
set_option maxHeartbeats 1000000 in
theorem rplace_any (T B sl rm who : Int) (v : Value) (sz : Int) (hT : 0 ≤ T ∧ T ≤ 8) (hB : 0 ≤ B ∧ B ≤ 64) (hs : 0 ≤ sl ∧ sl ≤ 100000) (hr : 0 ≤ rm ∧ rm ≤ 100000) (w : World) :
    Calls Tryd.prog 65 #[.agg #[.int .i64 T, .int .i64 B, .int .i64 sl, .int .i64 rm, .int .i64 104, .int .i64 32, v, .int .i64 sz], .int .i64 who] w fun e w' =>
      e = .returned (.tuple #[.int .i64 (rplaceN T B sl rm who).1, .int .i64 (rplaceN T B sl rm who).2]) ∧ ∃ r, w' = ext w r := by
  obtain ⟨hT0, hT1⟩ := hT
  obtain ⟨hB0, hB1⟩ := hB
  obtain ⟨hs0, hs1⟩ := hs
  obtain ⟨hr0, hr1⟩ := hr
  by_cases h1 : 1 ≤ who ∧ who ≤ T
  · have HR := hid (show rplaceN T B sl rm who = (sl + (who - 1) * 104, 32) by unfold rplaceN; rw [if_pos h1])
    obtain ⟨a1, a2⟩ := h1
    go_enter Tryd.func65, Tryd.ntmps65
    go_wp2_with fail
    go_ret2
    exact ⟨by rw [HR.out]; rfl, by (show Ext _ _; repeat (first | with_reducible (refine Hid.out ?_; assumption) | with_reducible exact Ext.refl _ | with_reducible refine Ext.ext ?_ _ | with_reducible refine Ext.alloc ?_ _ | refine Ext.drew ?_ | refine Ext.drewN ?_ _ | exact Ext.refl _))⟩
  · by_cases h9 : 9 ≤ who ∧ who < 9 + B
    · have HR := hid (show rplaceN T B sl rm who = (rm + (who - 9) * 32, 10) by unfold rplaceN; rw [if_neg h1, if_pos h9])
      obtain ⟨a1, a2⟩ := h9
      have a3 : 1 ≤ who := by omega
      have a4 : ¬ who ≤ T := by omega
      clear h1
      go_enter Tryd.func65, Tryd.ntmps65
      go_wp2_with fail
      go_ret2
      exact ⟨by rw [HR.out]; rfl, by (show Ext _ _; repeat (first | with_reducible (refine Hid.out ?_; assumption) | with_reducible exact Ext.refl _ | with_reducible refine Ext.ext ?_ _ | with_reducible refine Ext.alloc ?_ _ | refine Ext.drew ?_ | refine Ext.drewN ?_ _ | exact Ext.refl _))⟩
    · have HR := hid (show rplaceN T B sl rm who = (-1, 0) by unfold rplaceN; rw [if_neg h1, if_neg h9])
      have hc : (¬ 1 ≤ who ∧ ¬ 9 ≤ who) ∨ (1 ≤ who ∧ ¬ who ≤ T ∧ ¬ 9 ≤ who) ∨ (1 ≤ who ∧ ¬ who ≤ T ∧ 9 ≤ who ∧ ¬ who < 9 + B) := by omega
      clear h1 h9
      rcases hc with ⟨b1, b2⟩ | ⟨b1, b2, b3⟩ | ⟨b1, b2, b3, b4⟩
      all_goals
        go_enter Tryd.func65, Tryd.ntmps65
        go_wp2_with fail
        go_ret2
        exact ⟨by rw [HR.out]; rfl, by (show Ext _ _; repeat (first | with_reducible (refine Hid.out ?_; assumption) | with_reducible exact Ext.refl _ | with_reducible refine Ext.ext ?_ _ | with_reducible refine Ext.alloc ?_ _ | refine Ext.drew ?_ | refine Ext.drewN ?_ _ | exact Ext.refl _))⟩

end Go.Proofs.YtfijnpfhffhffaaDoor
