/- Blocks of the call's own that have been written after they were made. No program in sight. -/
import Derived.Test.YtojcojghnhibmaaDoorBlk
namespace Go.Proofs.YtojcojghnhibmaaDoor
open Go.RowKit

theorem Blk.newE {w : World} {b : Nat} (cs : Array Value) (t : TypeId) (hn : b = w.heap.size) : Blk (w.alloc (.cells cs t)) b cs.toList := Blk.new cs t rfl hn

/-- The cells of a block of eight. -/
theorem Blk.eight {w : World} {b : Nat} {x0 x1 x2 x3 x4 x5 x6 x7 : Value} (h : Blk w b [x0, x1, x2, x3, x4, x5, x6, x7]) : w.cell? ⟨b, 0, none⟩ = some x0 ∧ w.cell? ⟨b, 1, none⟩ = some x1 ∧ w.cell? ⟨b, 2, none⟩ = some x2 ∧ w.cell? ⟨b, 3, none⟩ = some x3 ∧ w.cell? ⟨b, 4, none⟩ = some x4 ∧ w.cell? ⟨b, 5, none⟩ = some x5 ∧ w.cell? ⟨b, 6, none⟩ = some x6 ∧ w.cell? ⟨b, 7, none⟩ = some x7 :=
  ⟨h.2.2 0 _ rfl, h.2.2 1 _ rfl, h.2.2 2 _ rfl, h.2.2 3 _ rfl, h.2.2 4 _ rfl, h.2.2 5 _ rfl, h.2.2 6 _ rfl, h.2.2 7 _ rfl⟩

/-- The cells of a block of three. -/
theorem Blk.three {w : World} {b : Nat} {x0 x1 x2 : Value} (h : Blk w b [x0, x1, x2]) : w.cell? ⟨b, 0, none⟩ = some x0 ∧ w.cell? ⟨b, 1, none⟩ = some x1 ∧ w.cell? ⟨b, 2, none⟩ = some x2 :=
  ⟨h.2.2 0 _ rfl, h.2.2 1 _ rfl, h.2.2 2 _ rfl⟩

end Go.Proofs.YtojcojghnhibmaaDoor
