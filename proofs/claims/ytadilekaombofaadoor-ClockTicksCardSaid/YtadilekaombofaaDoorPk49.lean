/- Arguments opened: slices of words, of entries, and of slices of entries. -/
import Derived.Test.YtadilekaombofaaDoorPk48
import Derived.ProofKit
import Derived.Deep.Slices
import Derived.Deep.Strs
import Derived.Lib.SmallJoins
namespace Go.Proofs.YtadilekaombofaaDoor
set_option linter.unusedSimpArgs false
set_option linter.unusedVariables false
open Go.ChangeShapes Go.WideShapes Go.RowKit Go.Deep Go.Joins
theorem exists_list {α : Type} {p : Nat → α → Prop} : ∀ n : Nat, (∀ i, i < n → ∃ x, p i x) → ∃ l : List α, l.length = n ∧ ∀ i x, l[i]? = some x → p i x
 | 0, _ => ⟨[], rfl, fun i x h => by simp at h⟩
 | n + 1, h => by
  obtain ⟨l, hl, hp⟩ := exists_list n (fun i hi => h i (by omega))
  obtain ⟨x, hx⟩ := h n (by omega)
  refine ⟨l ++ [x], by simp [hl], fun i y hy => ?_⟩
  by_cases hi : i < n
  ·rw [List.getElem?_append_left (by omega)] at hy
   exact hp i y hy
  ·rw [List.getElem?_append_right (by omega)] at hy
   have : i = n := by
    by_cases h2 : i - l.length = 0
    ·omega
    ·rw [List.getElem?_eq_none (by simp; omega)] at hy; cases hy
   subst this
   rw [hl, Nat.sub_self] at hy
   simp at hy
   subst hy
   exact hx
theorem cell_lt {w : World} {a : Addr} {v : Value} (h : w.cell? a = some v) : a.block < w.heap.size := by
 unfold World.cell? at h
 split at h
 ·rename_i hk
  exact (Array.getElem?_eq_some_iff.1 hk).1
 ·cases h
section
variable {H : Type} {enc : TypeId × Value → H} {P : Program} {w : World} {base : Nat} {spare : Nat → Bool} {held : Bool}
theorem sl_of_trod {α : Type} {size : Nat} {en : α → List Value} {Ok : α → Prop} {t e : TypeId} {fuel : Nat} {cs : List Value} {x : DataW H × List MemPlace}
 (ht : P.underlying t = some (.slice e)) (hC : P.cellsOf e = size) (hs0 : 0 < size) (hlen : ∀ x, (en x).length = size)
 (hel : ∀ (n : Nat) (cs : List Value) (x : DataW H × List MemPlace), DataW.trod enc P w base spare held n e cs = some x → ∃ a, Ok a ∧ cs = en a)
 (h : DataW.trod enc P w base spare held fuel t cs = some x) : ∃ v l, cs = [v] ∧ Sl w size en v l ∧ ∀ a ∈ l, Ok a := by
 rcases open_slice ht h with ⟨rfl, rfl⟩ | ⟨a, len, cap, m, n, D, Pl, rfl, hb, hl, hm, hmm, rfl, hx⟩
 ·exact ⟨_, [], rfl, Sl.nil, by simp⟩
 have hlm : len ≤ m := by rw [hmm]; split <;> omega
 rw [hC] at hx
 obtain ⟨l, hll, hp⟩ := exists_list (p := fun i y => Ok y ∧ ∀ j, j < size → w.cell? ((a.add (i * size)).add j) = (en y)[j]?) len (fun i hi => by
  obtain ⟨cs', h1, h2⟩ := hx i (by omega)
  obtain ⟨y, hy, rfl⟩ := hel _ _ _ h2
  exact ⟨y, hy, (World.cells?_some h1).2.2⟩)
 subst hll
 refine ⟨_, l, rfl, ⟨some a, cap, rfl, ⟨by unfold maxLen at hm; omega, hl⟩, fun hn => ?_⟩, fun y hy => ?_⟩
 ·have h0 : 0 < l.length := List.length_pos_iff.2 hn
  obtain ⟨_, h1⟩ := hp 0 _ (List.getElem?_eq_getElem h0)
  have h2 := h1 0 hs0
  rw [Nat.zero_mul] at h2
  have ha0 : (a.add 0).add 0 = a := by simp [Addr.add]
  rw [ha0, List.getElem?_eq_getElem (by rw [hlen]; exact hs0)] at h2
  have hsp := World.cell?_spot h2
  obtain ⟨b, o, s⟩ := a
  dsimp only at hsp
  subst hsp
  refine ⟨b, o, rfl, cell_lt h2, fun i y hy j hj => ?_⟩
  have h3 := (hp i y hy).2 j hj
  have hadd : ∀ (o k : Nat), (⟨b, o, none⟩ : Addr).add k = ⟨b, o + k, none⟩ := by intro o k; unfold Addr.add; split <;> simp_all
  rw [hadd, hadd] at h3
  exact h3
 ·obtain ⟨i, hi⟩ := List.mem_iff_getElem?.1 hy
  exact (hp i y hi).1
end
section
variable {H : Type} {enc : TypeId × Value → H} {w : World} {base : Nat} {spare : Nat → Bool} {held : Bool}
theorem wf_i64 {x : Int} (h : (Lit.int .i64 x).wf = true) : -9223372036854775808 ≤ x ∧ x ≤ 9223372036854775807 := by
 have h1 : IntKind.i64.min = -9223372036854775808 := rfl
 have h2 : IntKind.i64.max = 9223372036854775807 := rfl
 simp only [Lit.wf, Bool.and_eq_true, decide_eq_true_eq] at h
 omega
def WdOk (x : Wd) : Prop := (-9223372036854775808 ≤ x.1 ∧ x.1 ≤ 9223372036854775807) ∧ (0 ≤ x.2.1 ∧ x.2.1 ≤ 4294967295) ∧ (0 ≤ x.2.2 ∧ x.2.2 ≤ 4294967295)
end
end Go.Proofs.YtadilekaombofaaDoor
