/- Walks of package entry's inner functions: wrong, and the search by location. -/
import Derived.Test.YtaaammenbfinmaaDoorOwn
import Derived.Test.YtaaammenbfinmaaDoorWd
import Derived.Test.YtaaammenbfinmaaDoorWordA
namespace Go.Proofs.YtaaammenbfinmaaDoor
set_option linter.unusedSimpArgs false
set_option linter.unusedVariables false
open Go.RowKit

/-- Plain: an entry: location, value, version, reference, new value, written. -/
structure En where
  loc : Int
  val : Int
  ver : Int
  ref : Int
  new : Int
  wr : Bool
def enE (e : En) : List Value := [.int .i64 e.loc, .int .i64 e.val, .int .u32 e.ver, .int .u32 e.ref, .int .i64 e.new, .bool e.wr]
theorem enE_len (e : En) : (enE e).length = 6 := rfl
theorem enE_one (e : En) : ∀ u ∈ enE e, u.oneCell' = true := by
  intro u hu
  simp only [enE, List.mem_cons, List.not_mem_nil, or_false] at hu
  rcases hu with rfl | rfl | rfl | rfl | rfl | rfl <;> rfl
/-- The numbers fit their kinds. -/
structure EnOk (e : En) : Prop where
  loc0 : -9223372036854775808 ≤ e.loc
  loc1 : e.loc ≤ 9223372036854775807
  val0 : -9223372036854775808 ≤ e.val
  val1 : e.val ≤ 9223372036854775807
  ver0 : 0 ≤ e.ver
  ver1 : e.ver ≤ 4294967295
  ref0 : 0 ≤ e.ref
  ref1 : e.ref ≤ 4294967295
  new0 : -9223372036854775808 ≤ e.new
  new1 : e.new ≤ 9223372036854775807
/-- The slice v reads as these entries. -/
abbrev Es (w : World) (v : Value) (l : List En) : Prop := Sl w 6 enE v l

/-- Plain: the error of a single entry. -/
def wrongN (e : En) : Int :=
  if e.loc < 0 ∨ 4096 ≤ e.loc then 3 else if e.ref ≠ 0 then 13 else if e.wr = true ∧ e.ver = 4294967295 then 9 else if e.wr = false ∧ e.new ≠ e.val then 4 else 0

end Go.Proofs.YtaaammenbfinmaaDoor
