/- The walk of law 19's memory. -/
import Derived.Test.YtfijnpfhffhffaaDoorAwkA
import Derived.Test.YtfijnpfhffhffaaDoorArgs
import Derived.Test.YtfijnpfhffhffaaDoorHeld
namespace Go.Proofs.YtfijnpfhffhffaaDoor
set_option linter.unusedSimpArgs false
set_option linter.unusedVariables false
open Go.RowKit

/-- Plain: the first k words put, each at its number modulo the length. -/
def memTo (L : List Wd) (pl : List Pt) : Nat → List Wd
  | 0 => L
  | k + 1 => match pl[k]? with
    | some x => (memTo L pl k).set (x.1 % (L.length : Int)).toNat x.2
    | none => memTo L pl k
theorem memTo_len (L : List Wd) (pl : List Pt) (k : Nat) : (memTo L pl k).length = L.length := by
  induction k with
  | zero => rfl
  | succ k ih => simp only [memTo]; split <;> simp [ih]
theorem memTo_succ {L : List Wd} {pl : List Pt} {k : Nat} {x : Pt} (h : pl[k]? = some x) : memTo L pl (k + 1) = (memTo L pl k).set (x.1 % (L.length : Int)).toNat x.2 := by
  simp only [memTo, h]

end Go.Proofs.YtfijnpfhffhffaaDoor
