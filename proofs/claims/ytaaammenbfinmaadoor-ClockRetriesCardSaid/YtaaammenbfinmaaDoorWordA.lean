/- Walks of package word's inner functions: Ref, Who, kind, Plain. -/
import Derived.Test.YtaaammenbfinmaaDoorRows
import Derived.Test.YtaaammenbfinmaaDoorBase
namespace Go.Proofs.YtaaammenbfinmaaDoor
set_option linter.unusedSimpArgs false
set_option linter.unusedVariables false
open Go.RowKit

theorem wraps_u32w : ∀ n : Int, 0 ≤ n → n < 2 ^ 32 → IntKind.u32.wrap n = n := fun n h0 h1 => by rw [IntKind.wrap_u32]; omega
theorem or_ref {who seq : Int} (h1 : 0 ≤ who) (h2 : who ≤ 255) (h3 : 0 ≤ seq) (h4 : seq ≤ 16777215) : bits BinOp.or IntKind.u32 (who * 16777216) seq = who * 16777216 + seq :=
  bits_join .u32 32 (by decide) wraps_u32w 24 _ _ (by omega) (by omega) (by omega) h3 (by omega) (by omega)
theorem and_seq {ref : Int} (h0 : 0 ≤ ref) (h1 : ref ≤ 4294967295) : bits BinOp.and IntKind.u32 ref 16777215 = ref % 16777216 :=
  bits_mask .u32 32 (by decide) wraps_u32w 24 (by decide) ref h0 (by omega)

/-- Plain: the reference and the error. -/
def refN (who seq : Int) : Int × Int := if 1 ≤ who ∧ who ≤ 72 ∧ 1 ≤ seq ∧ seq ≤ 16777215 then (who * 16777216 + seq, 0) else (0, 3)

/-- Plain: the owner and the number of a reference. -/
def whoN (ref : Int) : Int × Int := if 1 ≤ ref / 16777216 ∧ ref / 16777216 ≤ 72 ∧ 1 ≤ ref % 16777216 then (ref / 16777216, ref % 16777216) else (0, 0)

/-- Plain: the kind of a word with this reference. -/
def kindN (ref : Int) : Int := if ref = 0 then 0 else if 0 < (whoN ref).1 then 1 else 2

theorem kindN_zero (ref : Int) : (kindN ref == 0) = (ref == 0) := by
  unfold kindN
  by_cases hz : ref = 0
  · simp [hz]
  · rw [if_neg hz]
    split <;> simp [hz]

end Go.Proofs.YtaaammenbfinmaaDoor
