/- The walk of law 19's plan: plain numbers, slices of bools. -/
import Derived.Test.YtojcojghnhibmaaDoorLogB
import Derived.Test.YtojcojghnhibmaaDoorPlaceLaw
namespace Go.Proofs.YtojcojghnhibmaaDoor
open Go.RowKit

/-- Plain: the layouts of 'plan' are valid. -/
theorem plan_ok {T C B : Int} (hT : 1 ≤ T ∧ T ≤ 4) (hC : 8 ≤ C ∧ C ≤ 47) (hB : 0 ≤ B ∧ B ≤ 11) : checkN T C B = 0 ∧ fromN T C B 7 ≤ 2000 := by
  have h7 : fromN T C B 7 ≤ 2000 := by
    simp only [fromN, longN, manyN, szN, upN]
    simp
    split <;> omega
  refine ⟨?_, h7⟩
  unfold checkN
  rw [if_neg (by omega), if_neg (by omega), if_neg (by omega), if_neg (by omega)]

/-- What plan leaves. -/
def PlanPost (w : World) (x y z : Int) (e : Ending) (w' : World) : Prop := ∃ (T C B sl rm sz : Nat) (v : Value), (1 ≤ T ∧ T ≤ 4) ∧ (8 ≤ C ∧ C ≤ 47) ∧ B ≤ 11 ∧ (sl : Int) = fromN T C B 4 ∧ (rm : Int) = (if 0 < B then fromN T C B 6 else 0) ∧ (sz : Int) = fromN T C B 7 ∧
  e = .returned (.tuple #[.agg #[.int .i64 T, .int .i64 C, .int .i64 B], .agg #[.int .i64 T, .int .i64 B, .int .i64 sl, .int .i64 rm, .int .i64 104, .int .i64 32, v, .int .i64 sz], .bool true]) ∧ (∃ r, w' = ext w r) ∧ Sl w' 1 boE v (mayL T C B sz)

end Go.Proofs.YtojcojghnhibmaaDoor
