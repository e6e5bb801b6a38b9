/- Plain: what is asked of a record of plain words. -/
import Derived.Test.YtlijgheghodfeaaDoorDetL
namespace Go.Proofs.YtlijgheghodfeaaDoor
set_option linter.unusedSimpArgs false
set_option linter.unusedVariables false
open Go.RowKit

theorem logic_plain {L : List Wd} (hl : L.length = 376) {q : Nat} (hm : mayN 3 8 0 q = true) {x y : Int} (hx : L[q]? = some (x, y, 0)) : logicN 3 8 0 L q = ((x, y, 0), 0) := by
  unfold logicN
  rw [if_neg (by rintro (h | h); exact h check24; rw [hl, size24] at h; omega), if_neg (by rw [hm]; simp), Int.toNat_natCast, hx]
  rfl
theorem ask_plain {L : List Wd} (hl : L.length = 376) {k : Int} {p : Nat} (hp : recN 3 8 0 k = p) {a b c d e f : Int} (h0 : L[p]? = some (a, b, 0)) (h1 : L[p + 1]? = some (c, d, 0)) (h2 : L[p + 2]? = some (e, f, 0)) : askN 3 8 0 L k = askV a c e := by
  have hm := rec_may (t := 3) (c := 8) (b := 0) (x := k) (by rw [hp]; omega)
  rw [hp] at hm
  have g0 := logic_plain hl hm.1 h0
  have g1 := logic_plain hl (q := p + 1) hm.2.1 h1
  have g2 := logic_plain hl (q := p + 2) hm.2.2.1 h2
  unfold askN
  rw [if_neg (by rintro (h | h); exact h check24; rw [hl, size24] at h; omega), hp, if_neg (by omega), size24, List.take_of_length_le (by rw [hl]; decide)]
  rw [g0, show ((p : Int) + 1) = ((p + 1 : Nat) : Int) by omega, g1, show ((p : Int) + 2) = ((p + 2 : Nat) : Int) by omega, g2]

end Go.Proofs.YtlijgheghodfeaaDoor
