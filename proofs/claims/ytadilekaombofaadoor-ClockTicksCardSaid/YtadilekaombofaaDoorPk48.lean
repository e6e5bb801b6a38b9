/- Walks of package word's inner functions: Ref, Who, kind, Plain. Walks of package entry's inner functions: wrong, and the search by location. -/
import Derived.Test.YtadilekaombofaaDoorRows
import Derived.Test.YtadilekaombofaaDoorPk00
import Derived.Test.YtadilekaombofaaDoorPk01
import Derived.Test.YtadilekaombofaaDoorPk05
namespace Go.Proofs.YtadilekaombofaaDoor
set_option linter.unusedSimpArgs false
set_option linter.unusedVariables false
open Go.RowKit
def refN (who seq : Int) : Int × Int := if 1 ≤ who ∧ who ≤ 72 ∧ 1 ≤ seq ∧ seq ≤ 16777215 then (who * 16777216 + seq, 0) else (0, 3)
def whoN (ref : Int) : Int × Int := if 1 ≤ ref / 16777216 ∧ ref / 16777216 ≤ 72 ∧ 1 ≤ ref % 16777216 then (ref / 16777216, ref % 16777216) else (0, 0)
def kindN (ref : Int) : Int := if ref = 0 then 0 else if 0 < (whoN ref).1 then 1 else 2
end Go.Proofs.YtadilekaombofaaDoor
namespace Go.Proofs.YtadilekaombofaaDoor
set_option linter.unusedSimpArgs false
set_option linter.unusedVariables false
open Go.RowKit
structure En where
 loc : Int
 val : Int
 ver : Int
 ref : Int
 new : Int
 wr : Bool
def enE (e : En) : List Value := [.int .i64 e.loc, .int .i64 e.val, .int .u32 e.ver, .int .u32 e.ref, .int .i64 e.new, .bool e.wr]
structure EnOk (e : En) : Prop where
 loc0 : -9223372036854775808 ≤ e.loc
 loc1 : e.loc ≤ 9223372036854775807
 val0 : -9223372036854775808 ≤ e.val
 val1 : e.val ≤ 9223372036854775807
 ver0 : 0 ≤ e.ver
 ver1 : e.ver ≤ 4294967295
 ref0 : 0 ≤ e.ref
 ref1 : e.ref ≤ 4294967295
 new0 : -9223372036854775808 ≤ e.new
 new1 : e.new ≤ 9223372036854775807
abbrev Es (w : World) (v : Value) (l : List En) : Prop := Sl w 6 enE v l
def wrongN (e : En) : Int :=
 if e.loc < 0 ∨ 4096 ≤ e.loc then 3 else if e.ref ≠ 0 then 13 else if e.wr = true ∧ e.ver = 4294967295 then 9 else if e.wr = false ∧ e.new ≠ e.val then 4 else 0
end Go.Proofs.YtadilekaombofaaDoor
