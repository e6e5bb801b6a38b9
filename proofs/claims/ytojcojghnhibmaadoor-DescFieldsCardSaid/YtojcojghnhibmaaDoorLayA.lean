/- Walks of package layout's inner functions: between, many. They hold for every argument in range. -/
import Derived.Test.YtojcojghnhibmaaDoorRows
import Derived.Test.YtojcojghnhibmaaDoorBase
namespace Go.Proofs.YtojcojghnhibmaaDoor
open Go.RowKit

set_option maxHeartbeats 400000 in
theorem between_any (n a b : Int) (w : World) :
    Calls Tryd.prog 45 #[.int .i64 n, .int .i64 a, .int .i64 b] w fun e w' => e = .returned (.bool (decide (a ≤ n ∧ n ≤ b))) ∧ w = w' := by
  by_cases h1 : a ≤ n
  · by_cases h2 : n ≤ b
    all_goals
      go_enter Tryd.func45, Tryd.ntmps45
      go_wp2
      go_ret
      exact ⟨by simp [h1, h2], rfl⟩
  · go_enter Tryd.func45, Tryd.ntmps45
    go_wp2
    go_ret
    exact ⟨by simp; omega, rfl⟩

/-- Plain: the number of items in a part. -/
def manyN (t c b : Int) : Nat → Int
  | 0 => 1
  | 1 => t
  | 2 => t
  | 3 => c
  | 4 => t
  | 5 => b
  | 6 => b
  | _ => 0

set_option maxHeartbeats 400000 in
set_option maxRecDepth 100000 in
theorem many_any (t c b : Int) (p : Nat) (hp : p < 7) (w : World) :
    Calls Tryd.prog 50 #[.agg #[.int .i64 t, .int .i64 c, .int .i64 b], .int .i64 p] w fun e w' => e = .returned (.int .i64 (manyN t c b p)) ∧ ∃ r, w' = ext w r := by
  have hi : ∀ w, (Instr.index 96 (.agg #[.int .i64 1, .int .i64 t, .int .i64 t, .int .i64 c, .int .i64 t, .int .i64 b, .int .i64 b]) (.int .i64 p)).run Tryd.prog w = .ok (.int .i64 (manyN t c b p)) w := by
    match p, hp with
    | 0, _ => exact fun _ => by kernel_rfl
    | 1, _ => exact fun _ => by kernel_rfl
    | 2, _ => exact fun _ => by kernel_rfl
    | 3, _ => exact fun _ => by kernel_rfl
    | 4, _ => exact fun _ => by kernel_rfl
    | 5, _ => exact fun _ => by kernel_rfl
    | 6, _ => exact fun _ => by kernel_rfl
  go_enter Tryd.func50, Tryd.ntmps50
  go_wp2
  go_ret
  exact ⟨rfl, Ext.of_alloc _ _⟩

end Go.Proofs.YtojcojghnhibmaaDoor
