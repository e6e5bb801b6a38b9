/- Walks of small functions of law 19: great, the reference's Place, May. -/
import Derived.Test.YtlijgheghodfeaaDoorDescF
namespace Go.Proofs.YtlijgheghodfeaaDoor
set_option linter.unusedSimpArgs false
set_option linter.unusedVariables false
open Go.RowKit

/-- Plain: where the reference lays a descriptor. -/
def rplaceN (T B sl rm who : Int) : Int × Int :=
  if 1 ≤ who ∧ who ≤ T then (sl + (who - 1) * 104, 32) else if 9 ≤ who ∧ who < 9 + B then (rm + (who - 9) * 32, 10) else (-1, 0)
end Go.Proofs.YtlijgheghodfeaaDoor
