/- Slices of bools. -/
import Derived.Test.YtlijgheghodfeaaDoorOwn
import Derived.Test.YtlijgheghodfeaaDoorWd
namespace Go.Proofs.YtlijgheghodfeaaDoor
set_option linter.unusedSimpArgs false
set_option linter.unusedVariables false
open Go.RowKit

def boE (x : Bool) : List Value := [.bool x]
theorem boE_len (x : Bool) : (boE x).length = 1 := rfl
theorem boE_one (x : Bool) : ∀ u ∈ boE x, u.oneCell' = true := by
  intro u hu
  simp only [boE, List.mem_cons, List.not_mem_nil, or_false] at hu
  rcases hu with rfl; rfl
theorem Tryd.infoBool : (Tryd.prog.info? 4).map (fun i => (i.zero, i.size, i.bytes)) = some (some (.bool false), 1, 1) := by kernel_rfl

end Go.Proofs.YtlijgheghodfeaaDoor
