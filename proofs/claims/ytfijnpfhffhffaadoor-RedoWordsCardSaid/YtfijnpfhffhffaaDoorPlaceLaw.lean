/- Plain: the reference's Place is the layout's. -/
import Derived.Test.YtfijnpfhffhffaaDoorBoo
import Derived.Test.YtfijnpfhffhffaaDoorDescG
namespace Go.Proofs.YtfijnpfhffhffaaDoor
set_option linter.unusedSimpArgs false
set_option linter.unusedVariables false
open Go.RowKit

/-- Plain: which locations may be accessed. -/
def mayL (t c b : Int) (n : Nat) : List Bool := (List.range n).map (fun i : Nat => mayN t c b i)
theorem mayL_succ (t c b : Int) (n : Nat) : mayL t c b (n + 1) = mayL t c b n ++ [mayN t c b n] := by
  unfold mayL; rw [List.range_succ, List.map_append]; rfl
theorem mayL_len (t c b : Int) (n : Nat) : (mayL t c b n).length = n := by simp [mayL]

theorem wrap_pre {x : Int} (h0 : -9223372036854775808 ≤ x) (h1 : x ≤ 9223372036854775807) : (1 ≤ x ∧ wrap64 (x - 1) = x - 1) ∨ (x < 1 ∧ (wrap64 (x - 1) < 0 ∨ 9223372036854775807 ≤ wrap64 (x - 1))) := by
  by_cases h : 1 ≤ x
  · exact .inl ⟨h, IntWalk.wrap64_in _ ⟨by omega, by omega⟩⟩
  · right
    refine ⟨by omega, ?_⟩
    by_cases h2 : -9223372036854775808 ≤ x - 1
    · left; rw [IntWalk.wrap64_in _ ⟨by omega, by omega⟩]; omega
    · right
      have : x = -9223372036854775808 := by omega
      subst this
      simp [wrap64]

theorem place_law {T C B sl rm : Nat} (hr : rightN T C B = true) (hT : T ≤ 8) (hsl : (sl : Int) = fromN T C B 4) (hrm : (rm : Int) = if 0 < B then fromN T C B 6 else 0) (who : Int) (h0 : -9223372036854775808 ≤ who) (h1 : who ≤ 9223372036854775807) :
    rplaceN T B sl rm who = placeN T C B who := by
  obtain ⟨g1, g2, g3, g4, g5⟩ := from_le7 (right_lok hr).1
  by_cases h9 : 9 ≤ who
  · by_cases hb : who < 9 + B
    · have hB : 0 < B := by omega
      rw [if_pos hB] at hrm
      have ha : atN T C B 6 (who - 9) 0 = (rm : Int) + (who - 9) * 32 := by
        unfold atN; rw [if_pos ⟨hr, by omega, by simp [manyN]; omega⟩]; simp only [szN]; omega
      unfold rplaceN placeN
      rw [if_neg (by omega), if_pos (by omega)]
      simp only [ha, h9, if_true]
      rw [if_neg (by omega)]
    · have ha : atN T C B 6 (who - 9) 0 = -1 := by
        unfold atN; rw [if_neg (by simp only [manyN]; omega)]
      unfold rplaceN placeN
      rw [if_neg (by omega), if_neg (by omega)]
      simp [ha, h9]
  · rcases wrap_pre h0 h1 with ⟨h2, h3⟩ | ⟨h2, h3⟩
    · by_cases ht : who ≤ T
      · have ha : atN T C B 4 (wrap64 (who - 1)) 0 = (sl : Int) + (who - 1) * 104 := by
          rw [h3]; unfold atN; rw [if_pos ⟨hr, by omega, by simp [manyN]; omega⟩]; simp only [szN]; omega
        unfold rplaceN placeN
        rw [if_pos (by omega)]
        simp only [ha, h9, if_false]
        rw [if_neg (by omega)]
      · have ha : atN T C B 4 (wrap64 (who - 1)) 0 = -1 := by
          rw [h3]; unfold atN; rw [if_neg (by simp only [manyN]; omega)]
        unfold rplaceN placeN
        rw [if_neg (by omega), if_neg (by omega)]
        simp [ha, h9]
    · have ha : atN T C B 4 (wrap64 (who - 1)) 0 = -1 := by
        unfold atN; rw [if_neg (by simp only [manyN]; omega)]
      unfold rplaceN placeN
      rw [if_neg (by omega), if_neg (by omega)]
      simp [ha, h9]
theorem place_neg {t c b who : Int} (h : (placeN t c b who).2 = 0) : placeN t c b who = (-1, 0) := by
  by_cases h9 : 9 ≤ who
  · by_cases hn : atN t c b 6 (who - 9) 0 < 0
    · simp [placeN, h9, hn]
    · simp [placeN, h9, hn] at h
  · by_cases hn : atN t c b 4 (wrap64 (who - 1)) 0 < 0
    · simp [placeN, h9, hn]
    · simp [placeN, h9, hn] at h

end Go.Proofs.YtfijnpfhffhffaaDoor
