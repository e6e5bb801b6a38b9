/- The walk of law 19's laid. -/
import Derived.Test.YtfijnpfhffhffaaDoorAwkA
import Derived.Test.YtfijnpfhffhffaaDoorGrn
namespace Go.Proofs.YtfijnpfhffhffaaDoor
set_option linter.unusedSimpArgs false
set_option linter.unusedVariables false
open Go.RowKit

/-- Plain: the image in which a descriptor is laid, if it is valid. -/
def laidL (t c b who seq st : Int) (es : List En) (L : List Wd) : List Wd :=
  if dcheckN t c b who seq st es = 0 then putL L (wordsW seq st es) (placeN t c b who).1.toNat (2 + 3 * es.length) else L
theorem wordsW_len (seq st : Int) (es : List En) : (wordsW seq st es).length = 2 + 3 * es.length := by
  unfold wordsW; rw [List.length_append, bodyW_len]; rfl
theorem laidL_len (t c b who seq st : Int) (es : List En) (L : List Wd) : (laidL t c b who seq st es L).length = L.length := by
  unfold laidL; split
  · rw [putL_len]
  · rfl

/-- What laid leaves. -/
def LaidPost (w : World) (t c b who seq st : Int) (es : List En) (L : List Wd) (base g cp : Nat) (e : Ending) (w' : World) : Prop :=
  e = .returned (.bool (dcheckN t c b who seq st es == 0)) ∧ Grn g w w' ∧ Ws w' base (.slice (some ⟨g, 0, none⟩) L.length cp) (laidL t c b who seq st es L)

end Go.Proofs.YtfijnpfhffhffaaDoor
