/- Walks of the reference of descriptors: Entry, Unpack. -/
import Derived.Test.YtlijgheghodfeaaDoorDescD
namespace Go.Proofs.YtlijgheghodfeaaDoor
set_option linter.unusedSimpArgs false
set_option linter.unusedVariables false
open Go.RowKit

end Go.Proofs.YtlijgheghodfeaaDoor
