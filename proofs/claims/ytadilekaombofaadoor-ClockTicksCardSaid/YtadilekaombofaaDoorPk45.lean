/- The law ClockTicks, walked: any picks. -/
import Derived.Test.YtadilekaombofaaDoorPk43
import Derived.Test.YtadilekaombofaaDoorPk44
namespace Go.Proofs.YtadilekaombofaaDoor
set_option linter.unusedSimpArgs false
set_option linter.unusedVariables false
open Go.RowKit Go.Maps
theorem clticks_any (time : Int) (x y z : Bool) {v : Value} {l : List Pk} {w : World} (hs : Szs w) (hl : Sl w 3 pkE v l) : Calls Tryd.prog 3 #[.int .i64 time, .agg #[.bool x, .bool y, .bool z], v] w fun e w' => e = .returned (.bool true) ∧ Ext w w' := by
 obtain ⟨a, c, rfl, hm, hq⟩ := id hl
 by_cases hln : l = []
 ·exact clticks_none time x y z hs hl hln
 ·obtain ⟨b', o', rfl, _⟩ := hq hln
  exact clticks_some time x y z b' o' hs hl
end Go.Proofs.YtadilekaombofaaDoor
