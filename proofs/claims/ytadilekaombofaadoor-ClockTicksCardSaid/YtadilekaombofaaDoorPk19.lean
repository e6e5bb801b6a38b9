/- Worlds in which some blocks of the call's own have been written: one notion that gives all that is asked behind it. No program in sight. -/
import Derived.Test.YtadilekaombofaaDoorPk04
import Derived.Test.YtadilekaombofaaDoorPk03
namespace Go.Proofs.YtadilekaombofaaDoor
set_option linter.unusedSimpArgs false
set_option linter.unusedVariables false
open Go.RowKit
def GrL (L : List Nat) (w w' : World) : Prop := (w'.os = w.os ∧ w'.tape = w.tape ∧ w'.output = w.output) ∧ (w.heap.size ≤ w'.heap.size ∧ ∀ j, j < w.heap.size → j ∉ L → w'.heap[j]? = w.heap[j]?) ∧ (∀ D, TyK D w w') ∧ KpB (fun _ => False) w w'
section
variable {L : List Nat} {w w' w'' : World}
theorem GrL.refl : GrL L w w := ⟨⟨rfl, rfl, rfl⟩, ⟨Nat.le_refl _, fun _ _ _ => rfl⟩, fun _ => TyK.refl, KpB.refl⟩
theorem GrL.size (h : GrL L w w') : w.heap.size ≤ w'.heap.size := h.2.1.1
theorem GrL.trans (h : GrL L w w') (k : GrL L w' w'') : GrL L w w'' := ⟨⟨k.1.1.trans h.1.1, k.1.2.1.trans h.1.2.1, k.1.2.2.trans h.1.2.2⟩, ⟨Nat.le_trans h.size k.size, fun j hj hn => (k.2.1.2 j (Nat.lt_of_lt_of_le hj h.size) hn).trans (h.2.1.2 j hj hn)⟩, fun D => (h.2.2.1 D).trans (k.2.2.1 D), h.2.2.2.trans k.2.2.2⟩
theorem GrL.of_ext (he : Ext w w') : GrL L w w' := by
 have hb := he.below
 exact ⟨⟨hb.os, hb.tape, hb.output⟩, ⟨hb.size, fun j hj _ => hb.block j hj⟩, fun _ => TyK.of_ext he, KpB.of_ext he⟩
theorem GrL.ext (h : GrL L w w') (r : Xt) : GrL L w (ext w' r) := h.trans (GrL.of_ext ⟨r, rfl⟩)
theorem GrL.alloc (h : GrL L w w') (o : Obj) : GrL L w (w'.alloc o) := h.trans (GrL.of_ext (Ext.of_alloc _ _))
theorem GrL.drew (h : GrL L w w') : GrL L w w'.drew := h.trans (GrL.of_ext (Ext.refl _).drew)
theorem GrL.set (h : GrL L w w') {g i : Nat} (hg : g ∈ L) (u : Value) : GrL L w (w'.setCell ⟨g, i, none⟩ u) :=
 h.trans ⟨⟨rfl, rfl, rfl⟩, ⟨by rw [World.size_setCell]; exact Nat.le_refl _, fun j _ hn => Below.heap_setCell w' _ u j (by dsimp only; intro he; exact hn (he ▸ hg))⟩, fun _ => TyK.refl.setCell _ _, KpB.refl.setCell (fun h => h) _⟩
theorem GrL.wide {L' : List Nat} (h : GrL L w w') (hl : ∀ g ∈ L, g ∈ L' ∨ w.heap.size ≤ g) : GrL L' w w' := ⟨h.1, ⟨h.size, fun j hj hn => h.2.1.2 j hj (fun hm => by rcases hl j hm with h1 | h1; exact hn h1; omega)⟩, h.2.2⟩
theorem GrL.kp {P : Nat → Prop} (h : GrL L w w') (hp : ∀ g ∈ L, ¬ P g) : KpB P w w' := ⟨h.size, fun b hb hl => h.2.1.2 b hl (fun hm => hp b hm hb), h.2.2.2.2.2⟩
theorem GrL.kpm (h : GrL L w w') : KpB (fun _ => False) w w' := h.2.2.2
theorem GrL.ty {D : List TypeId} (h : GrL L w w') : TyK D w w' := h.2.2.1 D
theorem GrL.block (h : GrL L w w') {j : Nat} (hj : j < w.heap.size) (hn : j ∉ L) : w'.heap[j]? = w.heap[j]? := h.2.1.2 j hj hn
theorem GrL.cell (h : GrL L w w') {b i : Nat} {v : Value} (hb : b ∉ L) (hc : w.cell? ⟨b, i, none⟩ = some v) : w'.cell? ⟨b, i, none⟩ = some v := by
 rw [World.cell?_of_block (w := w) (h.block (World.block_lt_of_cell? w _ hc) hb)]; exact hc
theorem Ext.grl {W : World} (h : Ext W w) (k : GrL L w w') (hg : ∀ g ∈ L, W.heap.size ≤ g) : Ext W w' := by
 have hb := h.below
 exact Ext.of_below ⟨k.1.1.trans hb.os, k.1.2.1.trans hb.tape, k.1.2.2.trans hb.output, Nat.le_trans hb.size k.size, fun j hj => (k.block (Nat.lt_of_lt_of_le hj hb.size) (fun hm => by have := hg j hm; omega)).trans (hb.block j hj)⟩
theorem Blk.grl {b : Nat} {l : List Value} (h : Blk w b l) (k : GrL L w w') (hb : b ∉ L) : Blk w' b l := by
 have e : w'.heap[b]? = w.heap[b]? := k.block h.1 hb
 exact ⟨Nat.lt_of_lt_of_le h.1 k.size, fun j => by rw [World.frozen?_of_block (w := w) e]; exact h.2.1 j, fun j v hv => by rw [World.cell?_of_block (w := w) e]; exact h.2.2 j v hv⟩
theorem Blk.cast {w : World} {b : Nat} {l l' : List Value} (h : Blk w b l) (e : l = l') : Blk w b l' := e ▸ h
theorem Own.grl {α : Type} {enc : α → List Value} {base : Nat} {e : TypeId} {size : Nat} {v : Value} {l : List α} (h : Own w base e size enc v l) (k : GrL L w w') (hne : ∀ g ∈ L, v.ownBlock ≠ some g) : Own w' base e size enc v l := by
 obtain ⟨h1, h2⟩ := h
 refine ⟨h1, h2.imp id ?_⟩
 rintro ⟨g, cap, cur, rfl, hb, hg, r⟩
 exact ⟨g, cap, cur, rfl, hb, by rw [k.block (Array.getElem?_eq_some_iff.1 hg).1 (fun hm => hne g hm rfl)]; exact hg, r⟩
end
end Go.Proofs.YtadilekaombofaaDoor
