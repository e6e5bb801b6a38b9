/- Words as data: slices of words, made, read and written; words compared. -/
import Derived.Test.YtadilekaombofaaDoorRows
import Derived.Test.YtadilekaombofaaDoorPk01
namespace Go.Proofs.YtadilekaombofaaDoor
set_option linter.unusedSimpArgs false
set_option linter.unusedVariables false
open Go.RowKit
abbrev Wd := Int × Int × Int
def wdE (x : Wd) : List Value := [.int .i64 x.1, .int .u32 x.2.1, .int .u32 x.2.2]
theorem wdE_len (x : Wd) : (wdE x).length = 3 := rfl
def Ws (w : World) (base : Nat) (v : Value) (l : List Wd) : Prop := Own w base 49 3 wdE v l
theorem Tryd.infoWord : (Tryd.prog.info? 49).map (fun i => (i.zero, i.size, i.bytes)) = some (some (.agg #[.int .i64 0, .int .u32 0, .int .u32 0]), 3, 16) := by kernel_rfl
theorem mod3_get (z : Array Value) (hz : z = #[.int .i64 0, .int .u32 0, .int .u32 0]) (n : Nat) : (madeCells z (n * 3)).toList = (List.replicate n ((0, 0, 0) : Wd)).flatMap wdE := by
 subst hz
 apply List.ext_getElem?
 intro i
 by_cases hi : i < n * 3
 ·have h1 : (List.replicate n ((0, 0, 0) : Wd))[i / 3]? = some (0, 0, 0) := by rw [List.getElem?_replicate, if_pos (by omega)]
  have h2 := flat_at wdE_len _ _ _ h1 (i % 3) (Nat.mod_lt _ (by omega))
  rw [show 3 * (i / 3) + i % 3 = i from by omega] at h2
  rw [h2]
  simp only [madeCells, Array.toList_map, Array.toList_range, List.getElem?_map, List.getElem?_range hi, Option.map_some, wdE]
  have h3 : i % 3 = 0 ∨ i % 3 = 1 ∨ i % 3 = 2 := by omega
  rcases h3 with h3 | h3 | h3 <;> simp [h3]
 ·rw [List.getElem?_eq_none (by simp [size_madeCells]; omega), List.getElem?_eq_none]
  have : ∀ m : Nat, ((List.replicate m ((0, 0, 0) : Wd)).flatMap wdE).length = m * 3 := by
   intro m
   induction m with
   | zero => rfl
   | succ m ih => rw [List.replicate_succ, List.flatMap_cons, List.length_append, ih]; simp [wdE]; omega
  rw [this]; omega
theorem mk_words (n : Nat) (hn : n ≤ 100000) (w : World) : (Instr.makeSlice 31 (.int .i64 n) (.int .i64 n)).run Tryd.prog w =
 .ok (.slice (some ⟨w.heap.size, 0, none⟩) n n) (w.alloc (.cells (madeCells #[.int .i64 0, .int .u32 0, .int .u32 0] (n * 3)) 49)) := by
 obtain ⟨i0, hi, hz0, hz1, hz2⟩ := info_parts Tryd.infoWord
 have := run_make (P := Tryd.prog) w 31 49 i0 _ Tryd.underlying31 hi hz0 .i64 .i64 n n (by omega) (by omega) (by rw [hz2]; omega) (by omega)
 have hcs : (Value.agg #[.int .i64 0, .int .u32 0, .int .u32 0]).cells = #[.int .i64 0, .int .u32 0, .int .u32 0] := by simp [Value.cells]
 rw [hz1, hcs] at this
 simpa using this
theorem Ws.made (n : Nat) (hn : n ≤ 100000) (w : World) (base : Nat) (hb : base ≤ w.heap.size) : Ws (w.alloc (.cells (madeCells #[.int .i64 0, .int .u32 0, .int .u32 0] (n * 3)) 49)) base (.slice (some ⟨w.heap.size, 0, none⟩) n n) (List.replicate n (0, 0, 0)) :=
 Own.made _ _ n (by simp) hb (by unfold maxLen; omega) (mod3_get _ rfl n) (by simp [size_madeCells])
theorem Ws.setVal {w : World} {base g n c : Nat} {l : List Wd} (h : Ws w base (.slice (some ⟨g, 0, none⟩) n c) l) {q : Nat} {x : Wd} (hx : l[q]? = some x) (h0 : x.2 = (0, 0)) (y : Int) {o : Nat} (ho : o = q * 3) :
 Ws (w.setCell ⟨g, o, none⟩ (.int .i64 y)) base (.slice (some ⟨g, 0, none⟩) n c) (l.set q (y, 0, 0)) := by
 obtain ⟨x1, x2, x3⟩ := x
 simp only [Prod.mk.injEq] at h0
 obtain ⟨rfl, rfl⟩ := h0
 exact Own.set wdE_len h hx (y, 0, 0) (j := 0) (by omega) _ rfl (by omega)
theorem Ws.cellVal {w : World} {base g n c : Nat} {l : List Wd} (h : Ws w base (.slice (some ⟨g, 0, none⟩) n c) l) {q : Nat} (hq : q < l.length) : ∃ x, l[q]? = some x ∧ w.cell? ⟨g, q * 3, none⟩ = some (.int .i64 x.1) := by
 obtain ⟨g', c', e, _, hc⟩ := Own.cellsAt wdE_len h (List.getElem?_eq_getElem hq)
 simp only [Value.slice.injEq, Option.some.injEq, Addr.mk.injEq] at e
 obtain ⟨⟨rfl, _⟩, _⟩ := e
 refine ⟨_, List.getElem?_eq_getElem hq, ?_⟩
 have := hc 0 (by omega)
 simpa [wdE] using this
theorem Ws.free {w : World} {base g n c : Nat} {l : List Wd} (h : Ws w base (.slice (some ⟨g, 0, none⟩) n c) l) (j : Nat) : w.frozen? ⟨g, j, none⟩ = false := by
 obtain ⟨a, c', e⟩ := Own.shape h
 simp only [Value.slice.injEq] at e
 obtain ⟨_, rfl, _⟩ := e
 exact World.ownsRow.frozenAt (show w.ownsRow base 49 3 _ l.length (l.flatMap wdE) from h) j
def wdB (x k : Wd) : Bool := decide (x = k)
theorem Ws.of {w w' : World} {base : Nat} {v : Value} {l : List Wd} (h : Ws w base v l) (he : Ext w w') : Ws w' base v l := by
 obtain ⟨r, rfl⟩ := he; exact Own.ext h r
end Go.Proofs.YtadilekaombofaaDoor
