/- Where a descriptor may lie; the walk of package desc's Field. -/
import Derived.Test.YtfijnpfhffhffaaDoorDescB
namespace Go.Proofs.YtfijnpfhffhffaaDoor
set_option linter.unusedSimpArgs false
set_option linter.unusedVariables false
open Go.RowKit

theorem atN_bd {t c b : Int} {p : Nat} {i more : Int} (hm : 0 ≤ more ∧ more ≤ 2) : -1 ≤ atN t c b p i more ∧ atN t c b p i more ≤ 3007 * p + 3002 := by
  unfold atN
  split
  · rename_i h
    obtain ⟨hr, h0, h1⟩ := h
    have hk := (right_lok hr).1
    have := from_bd hk p
    have := prod_bd hk p h0 h1
    omega
  · omega
theorem place_bd (t c b who : Int) : (-1 ≤ (placeN t c b who).1 ∧ (placeN t c b who).1 ≤ 30000) ∧ 0 ≤ (placeN t c b who).2 ∧ (placeN t c b who).2 ≤ 32 := by
  have h6 := atN_bd (t := t) (c := c) (b := b) (p := 6) (i := who - 9) (more := 0) (by omega)
  have h4 := atN_bd (t := t) (c := c) (b := b) (p := 4) (i := wrap64 (who - 1)) (more := 0) (by omega)
  unfold placeN
  by_cases h9 : 9 ≤ who
  · simp only [h9, if_true]
    split <;> constructor <;> simp <;> omega
  · simp only [h9, if_false]
    split <;> constructor <;> simp <;> omega

/-- Plain: the location of a part of an entry, and the error. -/
def fieldN (t c b who n part : Int) : Int × Int :=
  if checkN t c b ≠ 0 then (0, 1) else if n < 0 ∨ (placeN t c b who).2 ≤ n ∨ part < 0 ∨ 3 ≤ part then (0, 3) else ((placeN t c b who).1 + (2 + 3 * n + part), 0)

end Go.Proofs.YtfijnpfhffhffaaDoor
