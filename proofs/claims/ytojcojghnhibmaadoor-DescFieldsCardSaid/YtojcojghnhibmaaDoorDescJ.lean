/- Plain: a descriptor's room lies within the layout. -/
import Derived.Test.YtojcojghnhibmaaDoorDescI
namespace Go.Proofs.YtojcojghnhibmaaDoor
open Go.RowKit

theorem at_pos {t c b : Int} {p : Nat} {i : Int} (h : 0 ≤ atN t c b p i 0) : rightN t c b = true ∧ 0 ≤ i ∧ i < manyN t c b p ∧ atN t c b p i 0 = fromN t c b p + i * szN p := by
  unfold atN at h ⊢
  split at h
  · rename_i hh
    rw [if_pos hh]
    exact ⟨hh.1, hh.2.1, hh.2.2, by omega⟩
  · omega
theorem place_room {t c b who : Int} (hm : (placeN t c b who).2 ≠ 0) : 0 ≤ (placeN t c b who).1 ∧ (placeN t c b who).1 + 2 + 3 * (placeN t c b who).2 ≤ sizeN t c b := by
  by_cases h9 : 9 ≤ who
  · by_cases hn : atN t c b 6 (who - 9) 0 < 0
    · exact absurd (by simp [placeN, h9, hn]) hm
    · obtain ⟨hr, h0, h1, h2⟩ := at_pos (Int.not_lt.1 hn)
      obtain ⟨q1, q2, _⟩ := from_le7 (right_lok hr).1
      have hp : placeN t c b who = (atN t c b 6 (who - 9) 0, 10) := by simp [placeN, h9, hn]
      rw [hp]
      simp only [manyN, szN] at h1 h2
      have hs : sizeN t c b = fromN t c b 7 := by unfold sizeN; rw [if_pos hr]
      rw [hs]
      constructor
      · show 0 ≤ atN t c b 6 (who - 9) 0
        omega
      · show atN t c b 6 (who - 9) 0 + 2 + 3 * 10 ≤ _
        omega
  · by_cases hn : atN t c b 4 (wrap64 (who - 1)) 0 < 0
    · exact absurd (by simp [placeN, h9, hn]) hm
    · obtain ⟨hr, h0, h1, h2⟩ := at_pos (Int.not_lt.1 hn)
      obtain ⟨q1, q2, _⟩ := from_le7 (right_lok hr).1
      have hp : placeN t c b who = (atN t c b 4 (wrap64 (who - 1)) 0, 32) := by simp [placeN, h9, hn]
      rw [hp]
      simp only [manyN, szN] at h1 h2
      have hs : sizeN t c b = fromN t c b 7 := by unfold sizeN; rw [if_pos hr]
      rw [hs]
      constructor
      · show 0 ≤ atN t c b 4 (wrap64 (who - 1)) 0
        omega
      · show atN t c b 4 (wrap64 (who - 1)) 0 + 2 + 3 * 32 ≤ _
        omega

end Go.Proofs.YtojcojghnhibmaaDoor
