/- Worlds in which one block of the caller's own has been written. No program in sight. -/
import Derived.Test.YtadilekaombofaaDoorPk01
import Derived.Maps.AppendAt
namespace Go.Proofs.YtadilekaombofaaDoor
set_option linter.unusedSimpArgs false
set_option linter.unusedVariables false
open Go.RowKit
def Grn (g : Nat) (w w' : World) : Prop := w.grownBy w' (some g)
section
variable {g : Nat} {w w' w'' : World}
theorem Grn.refl : Grn g w w := ⟨rfl, rfl, rfl, Nat.le_refl _, fun _ _ _ => rfl⟩
theorem Grn.of_ext (h : Ext w w') : Grn g w w' := by
 have hb := h.below
 exact ⟨hb.os, hb.tape, hb.output, hb.size, fun k hk _ => hb.block k hk⟩
theorem Grn.trans (h : Grn g w w') (k : Grn g w' w'') : Grn g w w'' := World.grownBy.trans h k
theorem Grn.ext (h : Grn g w w') (r : Xt) : Grn g w (ext w' r) := h.trans (Grn.of_ext ⟨r, rfl⟩)
theorem Grn.alloc (h : Grn g w w') (o : Obj) : Grn g w (w'.alloc o) := h.trans (Grn.of_ext (Ext.of_alloc _ _))
theorem Grn.drew (h : Grn g w w') : Grn g w w'.drew := h.trans (Grn.of_ext (Ext.refl _).drew)
theorem Grn.setCell (h : Grn g w w') (i : Nat) (u : Value) : Grn g w (w'.setCell ⟨g, i, none⟩ u) :=
 h.trans ⟨rfl, rfl, rfl, by rw [World.size_setCell]; exact Nat.le_refl _, fun k _ hne => Below.heap_setCell _ _ _ _ (by intro e; exact hne (by rw [e]))⟩
theorem Grn.size (h : Grn g w w') : w.heap.size ≤ w'.heap.size := World.grownBy.size h
theorem Grn.cell (h : Grn g w w') {b i : Nat} {v : Value} (hb : b ≠ g) (hc : w.cell? ⟨b, i, none⟩ = some v) : w'.cell? ⟨b, i, none⟩ = some v := by
 rw [World.cell?_of_block (w := w) (h.block b (World.block_lt_of_cell? w _ hc) (by simpa using hb))]; exact hc
theorem Ext.grn {W : World} (h : Ext W w) (k : Grn g w w') (hg : W.heap.size ≤ g) : Ext W w' :=
 Ext.of_below (h.below.grown k h.size (fun j hj => by cases hj; exact hg))
theorem Blk.grn {b : Nat} {l : List Value} (h : Blk w b l) (k : Grn g w w') (hb : b ≠ g) : Blk w' b l := by
 have e : w'.heap[b]? = w.heap[b]? := k.block b h.1 (by simpa using hb)
 exact ⟨Nat.lt_of_lt_of_le h.1 k.size, fun j => by rw [World.frozen?_of_block (w := w) e]; exact h.2.1 j, fun j v hv => by rw [World.cell?_of_block (w := w) e]; exact h.2.2 j v hv⟩
theorem Sl.grn {α : Type} {size : Nat} {enc : α → List Value} (henc : ∀ x, (enc x).length = size) {b o n c : Nat} {l : List α} (h : Sl w size enc (.slice (some ⟨b, o, none⟩) n c) l) (k : Grn g w w') (hb : b ≠ g) : Sl w' size enc (.slice (some ⟨b, o, none⟩) n c) l := by
 obtain ⟨a, c', hv, hm, hl⟩ := h
 simp only [Value.slice.injEq] at hv
 obtain ⟨rfl, rfl, rfl⟩ := hv
 refine ⟨_, _, rfl, hm, fun hn => ?_⟩
 obtain ⟨b', o', ha, hbl, hc⟩ := hl hn
 cases ha
 refine ⟨b, o, rfl, Nat.lt_of_lt_of_le hbl k.size, fun i x hx j hj => ?_⟩
 have h1 := hc i x hx j hj
 rw [List.getElem?_eq_getElem (by rw [henc]; exact hj)] at h1 ⊢
 exact k.cell hb h1
end
end Go.Proofs.YtadilekaombofaaDoor
