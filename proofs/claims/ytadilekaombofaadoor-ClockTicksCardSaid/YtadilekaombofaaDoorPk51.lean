/- Arguments opened: entries, arrays of words, of small numbers, descriptors. -/
import Derived.Test.YtadilekaombofaaDoorPk49
import Derived.Laws.IdiomArrays
namespace Go.Proofs.YtadilekaombofaaDoor
set_option linter.unusedSimpArgs false
set_option linter.unusedVariables false
open Go.ChangeShapes Go.WideShapes Go.RowKit Go.Deep Go.Joins
section
variable {H : Type} {enc : TypeId × Value → H} {P : Program} {w : World} {base : Nat} {spare : Nat → Bool} {held : Bool}
theorem open_flat_struct {r : Reach} {b0 : Nat} {t : TypeId} {fs : Array Field} {v : Value} {d : DataW H} {p : List MemPlace} (hs : P.underlying t = some (.struct fs)) (hv : Value.okWide P w r b0 t v) (h : DataW.Trod enc P w base spare held t v d p) :
 ∃ cs n x, v = .agg cs ∧ DataW.trod enc P w base spare held n t cs.toList = some x := by
 simp only [Value.okWide, hs] at hv
 obtain ⟨cs, rfl, _, _⟩ := hv
 obtain ⟨fuel, hf⟩ := h
 exact ⟨cs, fuel, _, rfl, by simpa [Value.cells] using hf⟩
theorem agg_of_list {cs : Array Value} {l : List Value} (h : cs.toList = l) : Value.agg cs = .agg l.toArray := by rw [← h]
end
section
variable {H : Type} {enc : TypeId × Value → H} {w : World} {base : Nat} {spare : Nat → Bool} {held : Bool}
abbrev Pt := Int × Int × Int × Int
def ptE (x : Pt) : List Value := [.int .u16 x.1, .int .i64 x.2.1, .int .u32 x.2.2.1, .int .u32 x.2.2.2]
def PtOk (x : Pt) : Prop := (0 ≤ x.1 ∧ x.1 ≤ 65535) ∧ WdOk x.2
end
end Go.Proofs.YtadilekaombofaaDoor
