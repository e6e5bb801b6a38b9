/- Worlds in which one block of the call's own has been written, the block told by the slice that lies there. No program in sight. -/
import Derived.Test.YtadilekaombofaaDoorPk02
namespace Go.Proofs.YtadilekaombofaaDoor
set_option linter.unusedSimpArgs false
set_option linter.unusedVariables false
open Go.RowKit
section
variable {w w' w'' : World} {row : Option Nat}
theorem Gro.of_ext (h : Ext w w') (row : Option Nat) : w.grownBy w' row := by
 have hb := h.below
 exact ⟨hb.os, hb.tape, hb.output, hb.size, fun k hk _ => hb.block k hk⟩
theorem Blk.gro {b : Nat} {l : List Value} (h : Blk w b l) (k : w.grownBy w' row) (hb : row ≠ some b) : Blk w' b l := by
 have e : w'.heap[b]? = w.heap[b]? := k.block b h.1 (fun e => hb e.symm)
 exact ⟨Nat.lt_of_lt_of_le h.1 k.size, fun j => by rw [World.frozen?_of_block (w := w) e]; exact h.2.1 j, fun j v hv => by rw [World.cell?_of_block (w := w) e]; exact h.2.2 j v hv⟩
theorem Ext.gro {W : World} (h : Ext W w) (k : w.grownBy w' row) (hg : ∀ b, row = some b → W.heap.size ≤ b) : Ext W w' :=
 Ext.of_below (h.below.grown k h.size hg)
theorem Grn.gro {g : Nat} {W : World} (h : Grn g W w) (k : w.grownBy w' row) (hg : ∀ b, row = some b → W.heap.size ≤ b) : Grn g W w' :=
 ⟨k.os.trans h.os, k.tape.trans h.tape, k.output.trans h.output, Nat.le_trans h.size k.size, fun i hi hne => (k.block i (Nat.lt_of_lt_of_le hi h.size) (fun e => by have := hg i e.symm; omega)).trans (h.block i hi hne)⟩
section
variable {α : Type} {enc : α → List Value} {base : Nat} {e : TypeId} {size : Nat} {v : Value} {l : List α}
theorem Own.gro (h : Own w base e size enc v l) (k : w.grownBy w' row) (hne : v.ownBlock = none ∨ v.ownBlock ≠ row) : Own w' base e size enc v l := World.ownsRow.kept h k hne
theorem Own.bases (h : Own w base e size enc v l) : ∀ b, v.ownBlock = some b → base ≤ b := fun b hb => (World.ownsRow.lt h b hb).1
theorem Own.tops (h : Own w base e size enc v l) : ∀ b, v.ownBlock = some b → b < w.heap.size := fun b hb => (World.ownsRow.lt h b hb).2
theorem Own.not_at (h : Own w base e size enc v l) {b : Nat} (hb : b < base) : v.ownBlock ≠ some b := fun he => by have := h.bases b he; omega
end
def Two (v u : Value) : Prop := v.ownBlock = none ∨ v.ownBlock ≠ u.ownBlock
theorem Two.symm {v u : Value} (h : Two v u) : Two u v := by
 rcases h with h | h
 ·by_cases hu : u.ownBlock = none
  ·exact .inl hu
  ·exact .inr (by rw [h]; exact hu)
 ·exact .inr (fun e => h e.symm)
theorem Two.nil (u : Value) : Two (.slice none 0 0) u := .inl rfl
end
def Gr2 (a b : Nat) (w w' : World) : Prop := w.heap.size ≤ w'.heap.size ∧ ∀ j, j < w.heap.size → j ≠ a → j ≠ b → w'.heap[j]? = w.heap[j]?
section
variable {a b : Nat} {w w' : World}
theorem Gr2.refl : Gr2 a b w w := ⟨Nat.le_refl _, fun _ _ _ _ => rfl⟩
theorem Gr2.ext (h : Gr2 a b w w') (r : Xt) : Gr2 a b w (ext w' r) := ⟨by rw [size_ext]; exact Nat.le_trans h.1 (Nat.le_add_right _ _), fun j hj h1 h2 => (heap_ext w' r j (Nat.lt_of_lt_of_le hj h.1)).trans (h.2 j hj h1 h2)⟩
theorem Gr2.of (h : Gr2 a b w w') {w2 : World} (he : Ext w' w2) : Gr2 a b w w2 := by obtain ⟨r, rfl⟩ := he; exact h.ext r
theorem Gr2.alloc (h : Gr2 a b w w') (o : Obj) : Gr2 a b w (w'.alloc o) := h.of (Ext.of_alloc _ _)
theorem Gr2.drew (h : Gr2 a b w w') : Gr2 a b w w'.drew := h
theorem Gr2.setL (h : Gr2 a b w w') (i : Nat) (u : Value) : Gr2 a b w (w'.setCell ⟨a, i, none⟩ u) := ⟨by rw [World.size_setCell]; exact h.1, fun j hj h1 h2 => (Below.heap_setCell w' _ u j (by dsimp only; omega)).trans (h.2 j hj h1 h2)⟩
theorem Gr2.setR (h : Gr2 a b w w') (i : Nat) (u : Value) : Gr2 a b w (w'.setCell ⟨b, i, none⟩ u) := ⟨by rw [World.size_setCell]; exact h.1, fun j hj h1 h2 => (Below.heap_setCell w' _ u j (by dsimp only; omega)).trans (h.2 j hj h1 h2)⟩
theorem Gr2.cell (h : Gr2 a b w w') {n i : Nat} (h1 : n ≠ a) (h2 : n ≠ b) {v : Value} (hc : w.cell? ⟨n, i, none⟩ = some v) : w'.cell? ⟨n, i, none⟩ = some v := by
 rw [World.cell?_of_block (w := w) (h.2 n (World.block_lt_of_cell? w _ hc) h1 h2)]; exact hc
end
end Go.Proofs.YtadilekaombofaaDoor
