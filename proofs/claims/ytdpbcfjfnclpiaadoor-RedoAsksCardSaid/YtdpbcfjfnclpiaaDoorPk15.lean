/- Words put into an image, one after the other. No program in sight but the type's number. Worlds in which one block of the caller's own has been written. No program in sight. The walk of law 19's laid. Arguments opened: entries, arrays of words, of small numbers, descriptors. The walk of law 19's memory. Plain: Read looks at the owner's room alone; what is laid is read again, also behind another's. Plain: the images that the statements make hold words in range. A slice's rest. Plain: the kinds of answers of Read; the room of the reference's Place. Plain: what recovery makes of the words: words put at places, one after the other; the places of a layout. Plain: the recovery code, one act at a time, and its reference: both issue the same acts. -/
import Derived.Test.YtdpbcfjfnclpiaaDoorPk14
import Derived.Test.YtdpbcfjfnclpiaaDoorPk03
import Derived.Maps.AppendAt
import Derived.Test.YtdpbcfjfnclpiaaDoorPk11
import Derived.Laws.IdiomArrays
import Derived.Test.YtdpbcfjfnclpiaaDoorPk06
namespace Go.Proofs.YtdpbcfjfnclpiaaDoor
set_option linter.unusedSimpArgs false
set_option linter.unusedVariables false
open Go.RowKit
theorem Ws.put {w : World} {base g n c : Nat} {l : List Wd} (h : Ws w base (.slice (some ⟨g, 0, none⟩) n c) l) {q : Nat} (hq : q < l.length) (x y z : Int) :
 Ws (((w.setCell ⟨g, q * 3, none⟩ (.int .i64 x)).setCell ⟨g, q * 3 + 1, none⟩ (.int .u32 y)).setCell ⟨g, q * 3 + 2, none⟩ (.int .u32 z)) base (.slice (some ⟨g, 0, none⟩) n c) (l.set q (x, y, z)) := by
 obtain ⟨⟨a1, a2, a3⟩, hx⟩ : ∃ a, l[q]? = some a := ⟨_, List.getElem?_eq_getElem hq⟩
 have h1 := Own.set wdE_len h hx (x, a2, a3) (j := 0) (by omega) (.int .i64 x) rfl (o := q * 3) (by omega)
 have hx1 : (l.set q (x, a2, a3))[q]? = some (x, a2, a3) := List.getElem?_set_self hq
 have h2 := Own.set wdE_len h1 hx1 (x, y, a3) (j := 1) (by omega) (.int .u32 y) rfl (o := q * 3 + 1) (by omega)
 rw [List.set_set] at h2
 have hx2 : (l.set q (x, y, a3))[q]? = some (x, y, a3) := List.getElem?_set_self hq
 have h3 := Own.set wdE_len h2 hx2 (x, y, z) (j := 2) (by omega) (.int .u32 z) rfl (o := q * 3 + 2) (by omega)
 rw [List.set_set] at h3
 exact h3
theorem Ws.cells {w : World} {base g n c : Nat} {l : List Wd} (h : Ws w base (.slice (some ⟨g, 0, none⟩) n c) l) {q : Nat} {x y z : Int} (hq : l[q]? = some (x, y, z)) :
 w.cell? ⟨g, q * 3, none⟩ = some (.int .i64 x) ∧ w.cell? ⟨g, q * 3 + 1, none⟩ = some (.int .u32 y) ∧ w.cell? ⟨g, q * 3 + 2, none⟩ = some (.int .u32 z) := by
 obtain ⟨g', c', e, _, hc⟩ := Own.cellsAt wdE_len h hq
 simp only [Value.slice.injEq, Option.some.injEq, Addr.mk.injEq] at e
 obtain ⟨⟨rfl, _⟩, _⟩ := e
 exact ⟨hc 0 (by omega), hc 1 (by omega), hc 2 (by omega)⟩
theorem Ws.open {w : World} {base : Nat} {v : Value} {l : List Wd} (h : Ws w base v l) (h0 : 0 < l.length) : ∃ g c, v = .slice (some ⟨g, 0, none⟩) l.length c ∧ base ≤ g ∧ g < w.heap.size := by
 rcases h.2 with ⟨h1, h2⟩ | ⟨g', cap, cur, h1, hb, hg, _⟩
 ·omega
 ·exact ⟨g', cap, h1, hb, (Array.getElem?_eq_some_iff.1 hg).1⟩
def putL (L X : List Wd) (p : Nat) : Nat → List Wd
 | 0 => L
 | k + 1 => (putL L X p k).set (p + k) (X.getD k (0, 0, 0))
theorem putL_len (L X : List Wd) (p k : Nat) : (putL L X p k).length = L.length := by
 induction k with
 | zero => rfl
 | succ k ih => simp [putL, ih]
theorem putL_succ {L X : List Wd} {p k : Nat} {x : Wd} (h : X[k]? = some x) : putL L X p (k + 1) = (putL L X p k).set (p + k) x := by
 have : X.getD k (0, 0, 0) = x := by rw [List.getD_eq_getElem?_getD, h]; rfl
 simp only [putL, this]
end Go.Proofs.YtdpbcfjfnclpiaaDoor
namespace Go.Proofs.YtdpbcfjfnclpiaaDoor
set_option linter.unusedSimpArgs false
set_option linter.unusedVariables false
open Go.RowKit
def Grn (g : Nat) (w w' : World) : Prop := w.grownBy w' (some g)
section
variable {g : Nat} {w w' w'' : World}
theorem Grn.refl : Grn g w w := ⟨rfl, rfl, rfl, Nat.le_refl _, fun _ _ _ => rfl⟩
theorem Grn.of_ext (h : Ext w w') : Grn g w w' := by
 have hb := h.below
 exact ⟨hb.os, hb.tape, hb.output, hb.size, fun k hk _ => hb.block k hk⟩
theorem Grn.trans (h : Grn g w w') (k : Grn g w' w'') : Grn g w w'' := World.grownBy.trans h k
theorem Grn.ext (h : Grn g w w') (r : Xt) : Grn g w (ext w' r) := h.trans (Grn.of_ext ⟨r, rfl⟩)
theorem Grn.alloc (h : Grn g w w') (o : Obj) : Grn g w (w'.alloc o) := h.trans (Grn.of_ext (Ext.of_alloc _ _))
theorem Grn.drew (h : Grn g w w') : Grn g w w'.drew := h.trans (Grn.of_ext (Ext.refl _).drew)
theorem Grn.setCell (h : Grn g w w') (i : Nat) (u : Value) : Grn g w (w'.setCell ⟨g, i, none⟩ u) :=
 h.trans ⟨rfl, rfl, rfl, by rw [World.size_setCell]; exact Nat.le_refl _, fun k _ hne => Below.heap_setCell _ _ _ _ (by intro e; exact hne (by rw [e]))⟩
theorem Grn.size (h : Grn g w w') : w.heap.size ≤ w'.heap.size := World.grownBy.size h
theorem Grn.cell (h : Grn g w w') {b i : Nat} {v : Value} (hb : b ≠ g) (hc : w.cell? ⟨b, i, none⟩ = some v) : w'.cell? ⟨b, i, none⟩ = some v := by
 rw [World.cell?_of_block (w := w) (h.block b (World.block_lt_of_cell? w _ hc) (by simpa using hb))]; exact hc
theorem Ext.grn {W : World} (h : Ext W w) (k : Grn g w w') (hg : W.heap.size ≤ g) : Ext W w' :=
 Ext.of_below (h.below.grown k h.size (fun j hj => by cases hj; exact hg))
theorem Blk.grn {b : Nat} {l : List Value} (h : Blk w b l) (k : Grn g w w') (hb : b ≠ g) : Blk w' b l := by
 have e : w'.heap[b]? = w.heap[b]? := k.block b h.1 (by simpa using hb)
 exact ⟨Nat.lt_of_lt_of_le h.1 k.size, fun j => by rw [World.frozen?_of_block (w := w) e]; exact h.2.1 j, fun j v hv => by rw [World.cell?_of_block (w := w) e]; exact h.2.2 j v hv⟩
theorem Sl.grn {α : Type} {size : Nat} {enc : α → List Value} (henc : ∀ x, (enc x).length = size) {b o n c : Nat} {l : List α} (h : Sl w size enc (.slice (some ⟨b, o, none⟩) n c) l) (k : Grn g w w') (hb : b ≠ g) : Sl w' size enc (.slice (some ⟨b, o, none⟩) n c) l := by
 obtain ⟨a, c', hv, hm, hl⟩ := h
 simp only [Value.slice.injEq] at hv
 obtain ⟨rfl, rfl, rfl⟩ := hv
 refine ⟨_, _, rfl, hm, fun hn => ?_⟩
 obtain ⟨b', o', ha, hbl, hc⟩ := hl hn
 cases ha
 refine ⟨b, o, rfl, Nat.lt_of_lt_of_le hbl k.size, fun i x hx j hj => ?_⟩
 have h1 := hc i x hx j hj
 rw [List.getElem?_eq_getElem (by rw [henc]; exact hj)] at h1 ⊢
 exact k.cell hb h1
end
end Go.Proofs.YtdpbcfjfnclpiaaDoor
namespace Go.Proofs.YtdpbcfjfnclpiaaDoor
set_option linter.unusedSimpArgs false
set_option linter.unusedVariables false
open Go.RowKit
def laidL (t c b who seq st : Int) (es : List En) (L : List Wd) : List Wd :=
 if dcheckN t c b who seq st es = 0 then putL L (wordsW seq st es) (placeN t c b who).1.toNat (2 + 3 * es.length) else L
def LaidPost (w : World) (t c b who seq st : Int) (es : List En) (L : List Wd) (base g cp : Nat) (e : Ending) (w' : World) : Prop :=
 e = .returned (.bool (dcheckN t c b who seq st es == 0)) ∧ Grn g w w' ∧ Ws w' base (.slice (some ⟨g, 0, none⟩) L.length cp) (laidL t c b who seq st es L)
end Go.Proofs.YtdpbcfjfnclpiaaDoor
namespace Go.Proofs.YtdpbcfjfnclpiaaDoor
set_option linter.unusedSimpArgs false
set_option linter.unusedVariables false
open Go.ChangeShapes Go.WideShapes Go.RowKit Go.Deep Go.Joins
section
variable {H : Type} {enc : TypeId × Value → H} {P : Program} {w : World} {base : Nat} {spare : Nat → Bool} {held : Bool}
end
section
variable {H : Type} {enc : TypeId × Value → H} {w : World} {base : Nat} {spare : Nat → Bool} {held : Bool}
abbrev Pt := Int × Int × Int × Int
def ptE (x : Pt) : List Value := [.int .u16 x.1, .int .i64 x.2.1, .int .u32 x.2.2.1, .int .u32 x.2.2.2]
def PtOk (x : Pt) : Prop := (0 ≤ x.1 ∧ x.1 ≤ 65535) ∧ WdOk x.2
end
end Go.Proofs.YtdpbcfjfnclpiaaDoor
namespace Go.Proofs.YtdpbcfjfnclpiaaDoor
set_option linter.unusedSimpArgs false
set_option linter.unusedVariables false
open Go.RowKit
def memTo (L : List Wd) (pl : List Pt) : Nat → List Wd
 | 0 => L
 | k + 1 => match pl[k]? with
  | some x => (memTo L pl k).set (x.1 % (L.length : Int)).toNat x.2
  | none => memTo L pl k
end Go.Proofs.YtdpbcfjfnclpiaaDoor
namespace Go.Proofs.YtdpbcfjfnclpiaaDoor
set_option linter.unusedSimpArgs false
set_option linter.unusedVariables false
open Go.RowKit
end Go.Proofs.YtdpbcfjfnclpiaaDoor
namespace Go.Proofs.YtdpbcfjfnclpiaaDoor
set_option linter.unusedSimpArgs false
set_option linter.unusedVariables false
open Go.RowKit
theorem set_ok {L : List Wd} (h : ∀ a ∈ L, WdOk a) {x : Wd} (hx : WdOk x) (i : Nat) : ∀ a ∈ L.set i x, WdOk a := by
 intro a ha
 rcases List.mem_or_eq_of_mem_set ha with h1 | h1
 ·exact h a h1
 ·subst h1; exact hx
theorem wdOk0 (x : Int) (h : 0 ≤ x ∧ x ≤ 2) : WdOk (x, 0, 0) := ⟨⟨by dsimp only; omega, by dsimp only; omega⟩, ⟨by dsimp only; omega, by dsimp only; omega⟩, ⟨by dsimp only; omega, by dsimp only; omega⟩⟩
theorem firstL_ok (t c b : Int) : ∀ a ∈ firstL t c b, WdOk a := by
 have h0 : ∀ n, ∀ a ∈ first0 n, WdOk a := by
  intro n
  refine set_ok (fun a ha => ?_) (wdOk0 1 (by omega)) 1
  rw [(List.mem_replicate.1 ha).2]
  exact wdOk0 0 (by omega)
 have h1 : ∀ n k, ∀ a ∈ first1 t c b n k, WdOk a := by
  intro n k
  induction k with
  | zero => exact h0 n
  | succ k ih => exact set_ok ih (wdOk0 2 (by omega)) _
 have h2 : ∀ n T k, ∀ a ∈ first2 t c b n T k, WdOk a := by
  intro n T k
  induction k with
  | zero => exact h1 n T
  | succ k ih => exact set_ok ih (wdOk0 2 (by omega)) _
 unfold firstL
 split
 ·exact h2 _ _ _
 ·simp
end Go.Proofs.YtdpbcfjfnclpiaaDoor
namespace Go.Proofs.YtdpbcfjfnclpiaaDoor
set_option linter.unusedSimpArgs false
set_option linter.unusedVariables false
open Go.RowKit
theorem Sl.dropAt {α : Type} {w : World} {size : Nat} {enc : α → List Value} {l : List α} {a : Option Addr} {n c : Nat} (h : Sl w size enc (.slice a n c) l) (k : Nat) (hk : k ≤ l.length) :
 Sl w size enc (.slice (if c = k then a else a.map (fun x => x.add (k * size))) (l.length - k) (c - k)) (l.drop k) := by
 obtain ⟨a', c1, hv, hm, hl⟩ := h
 simp only [Value.slice.injEq] at hv
 obtain ⟨rfl, rfl, rfl⟩ := hv
 refine ⟨_, _, by rw [List.length_drop], by rw [List.length_drop]; omega, fun hn => ?_⟩
 have hkl : k < l.length := by
  rcases Nat.lt_or_ge k l.length with h | h
  ·exact h
  ·exact absurd (List.drop_eq_nil_of_le h) hn
 obtain ⟨b, o, rfl, hb, hc⟩ := hl (fun h0 => by rw [h0] at hkl; simp at hkl)
 have hadd : (⟨b, o, none⟩ : Addr).add (k * size) = ⟨b, o + k * size, none⟩ := by unfold Addr.add; split <;> simp_all
 refine ⟨b, o + k * size, by rw [if_neg (by omega), Option.map_some, hadd], hb, fun i x hx j hj => ?_⟩
 rw [List.getElem?_drop] at hx
 have := hc _ x hx j hj
 rw [Nat.add_mul] at this
 rw [← this]
 congr 2
 omega
theorem Sl.dropB {α : Type} {w : World} {size : Nat} {enc : α → List Value} {l : List α} {b o n c : Nat} (h : Sl w size enc (.slice (some ⟨b, o, none⟩) n c) l) (k : Nat) (hk : k ≤ l.length) (hc : ¬ c = k) :
 Sl w size enc (.slice (some ⟨b, o + k * size, none⟩) (n - k) (c - k)) (l.drop k) := by
 have h1 := Sl.dropAt h k hk
 obtain ⟨a', c1, hv, _, _⟩ := h
 simp only [Value.slice.injEq] at hv
 have hadd : (⟨b, o, none⟩ : Addr).add (k * size) = ⟨b, o + k * size, none⟩ := by unfold Addr.add; split <;> simp_all
 rw [if_neg hc, Option.map_some, hadd, ← hv.2.1] at h1
 exact h1
theorem Sl.cap {α : Type} {w : World} {size : Nat} {enc : α → List Value} {l : List α} {a : Option Addr} {n c : Nat} (h : Sl w size enc (.slice a n c) l) : n = l.length ∧ n ≤ c := by
 obtain ⟨a', c1, hv, hm, _⟩ := h
 simp only [Value.slice.injEq] at hv
 omega
def roomTo (L : List Wd) (p : Int) (pl : List Pt) : Nat → List Wd
 | 0 => L
 | k + 1 => match pl[k]? with
  | some x => if 0 ≤ p then (roomTo L p pl k).set (p + x.1 % 12).toNat x.2 else roomTo L p pl k
  | none => roomTo L p pl k
end Go.Proofs.YtdpbcfjfnclpiaaDoor
namespace Go.Proofs.YtdpbcfjfnclpiaaDoor
set_option linter.unusedSimpArgs false
set_option linter.unusedVariables false
open Go.RowKit
def put1 (g : Nat → Option Wd) (L : List Wd) (p : Nat) : List Wd := match g p with | some x => L.set p x | none => L
def putF (g : Nat → Option Wd) : List Wd → List Nat → List Wd
 | L, [] => L
 | L, p :: ps => putF g (put1 g L p) ps
theorem put1_len (g : Nat → Option Wd) (L : List Wd) (p : Nat) : (put1 g L p).length = L.length := by
 unfold put1; split <;> simp
theorem putF_len (g : Nat → Option Wd) : ∀ (ps : List Nat) (L : List Wd), (putF g L ps).length = L.length
 | [], _ => rfl
 | p :: ps, L => by rw [putF, putF_len g ps, put1_len]
theorem putF_snoc (g : Nat → Option Wd) : ∀ (ps : List Nat) (L : List Wd) (p : Nat), putF g L (ps ++ [p]) = put1 g (putF g L ps) p
 | [], _, _ => rfl
 | q :: ps, L, p => by rw [List.cons_append, putF, putF, putF_snoc g ps]
theorem putF_take {g : Nat → Option Wd} {L : List Wd} {ps : List Nat} {k p : Nat} (h : ps[k]? = some p) : putF g L (ps.take (k + 1)) = put1 g (putF g L (ps.take k)) p := by
 obtain ⟨h1, h2⟩ := List.getElem?_eq_some_iff.1 h
 rw [List.take_succ_eq_append_getElem h1, h2, putF_snoc]
def maysTo (t c b : Int) (n : Nat) : List Nat := (List.range n).filter (fun p => mayN t c b p)
def maysL (t c b : Int) : List Nat := maysTo t c b (sizeN t c b).toNat
def slotTo (t c b : Int) (n : Nat) : List Nat := (List.range n).map (fun k : Nat => (atN t c b 4 k 0).toNat)
def blockTo (t c b : Int) (n : Nat) : List Nat := (List.range n).map (fun k : Nat => (atN t c b 6 k 0).toNat)
def statsL (t c b : Int) : List Nat := slotTo t c b t.toNat ++ blockTo t c b b.toNat
def ownTo (t c b : Int) (n : Nat) : List Nat := (List.range n).flatMap (fun k : Nat => [(atN t c b 1 k 0).toNat, (atN t c b 1 k 1).toNat])
def ownsL (t c b : Int) : List Nat := ownTo t c b t.toNat
theorem maysTo_yes {t c b : Int} {n : Nat} (h : mayN t c b n = true) : maysTo t c b (n + 1) = maysTo t c b n ++ [n] := by
 unfold maysTo; rw [List.range_succ, List.filter_append]; simp [h]
theorem maysTo_no {t c b : Int} {n : Nat} (h : mayN t c b n = false) : maysTo t c b (n + 1) = maysTo t c b n := by
 unfold maysTo; rw [List.range_succ, List.filter_append]; simp [h]
theorem slotTo_succ (t c b : Int) (n : Nat) : slotTo t c b (n + 1) = slotTo t c b n ++ [(atN t c b 4 n 0).toNat] := by
 unfold slotTo; rw [List.range_succ, List.map_append]; rfl
theorem blockTo_succ (t c b : Int) (n : Nat) : blockTo t c b (n + 1) = blockTo t c b n ++ [(atN t c b 6 n 0).toNat] := by
 unfold blockTo; rw [List.range_succ, List.map_append]; rfl
theorem ownTo_succ (t c b : Int) (n : Nat) : ownTo t c b (n + 1) = ownTo t c b n ++ [(atN t c b 1 n 0).toNat, (atN t c b 1 n 1).toNat] := by
 unfold ownTo; rw [List.range_succ, List.flatMap_append]; simp
theorem maysL_lt {t c b : Int} {p : Nat} (h : p ∈ maysL t c b) : mayN t c b p = true ∧ (p : Int) < sizeN t c b := by
 unfold maysL maysTo at h
 rw [List.mem_filter, List.mem_range] at h
 exact ⟨h.2, by omega⟩
theorem atN_lt {t c b : Int} {p : Nat} {i more : Int} (hr : rightN t c b = true) (hp : p < 7) (hi : 0 ≤ i ∧ i < manyN t c b p) (hm : 0 ≤ more ∧ more < (if p = 1 then 8 else 1)) (hz : p ≠ 0 ∧ p ≠ 5) : 0 ≤ atN t c b p i more ∧ atN t c b p i more < sizeN t c b := by
 have hk := (right_lok hr).1
 have h7 := from_le7 hk
 obtain ⟨k1, k2, k3, k4, k5, k6⟩ := hk
 have hs : sizeN t c b = fromN t c b 7 := by unfold sizeN; rw [if_pos hr]
 rw [hs]
 have e : atN t c b p i more = fromN t c b p + i * szN p + more := by
  unfold atN; rw [if_pos ⟨hr, hi.1, hi.2⟩]
 rw [e]
 have hc : p = 1 ∨ p = 2 ∨ p = 3 ∨ p = 4 ∨ p = 6 := by omega
 rcases hc with rfl | rfl | rfl | rfl | rfl <;> simp [manyN, szN] at hi hm ⊢ <;> simp only [fromN, longN, manyN, szN, upN] <;> simp <;> (try split) <;> omega
def undB (x : Wd) : Bool := decide (x.1 = 0) || decide (x.1 = 3)
def logG (f : Nat → Wd) (p : Nat) : Option Wd := some (f p)
def statG (L : List Wd) (p : Nat) : Option Wd := match L[p]? with | some x => if undB x = true then some (2, x.2.1, 0) else none | none => none
def zeroG (_ : Nat) : Option Wd := some (0, 0, 0)
def redoW (f : Nat → Wd) (L : List Wd) (ms ss os : List Nat) : List Wd := putF zeroG (putF (statG L) (putF (logG f) L ms) ss) os
def redoL (t c b : Int) (L : List Wd) : List Wd := redoW (fun p => (logicN t c b (L.take (sizeN t c b).toNat) p).1) L (maysL t c b) (statsL t c b) (ownsL t c b)
def redoN (t c b : Int) (L : List Wd) : List Wd × Int := if checkN t c b ≠ 0 ∨ (L.length : Int) < sizeN t c b then ([], 1) else (redoL t c b L, 0)
theorem redoW_len (f : Nat → Wd) (L : List Wd) (ms ss os : List Nat) : (redoW f L ms ss os).length = L.length := by
 unfold redoW; rw [putF_len, putF_len, putF_len]
def cleanW (L : List Wd) (ms ss os : List Nat) : Bool :=
 ms.all (fun p => match L[p]? with | some x => decide (x.2.2 = 0) | none => true) && (ss.all (fun p => match L[p]? with | some x => !undB x | none => true) && os.all (fun p => match L[p]? with | some x => wdB x (0, 0, 0) | none => true))
def cleanN (t c b : Int) (L : List Wd) : Bool := if checkN t c b ≠ 0 ∨ (L.length : Int) < sizeN t c b then false else cleanW L (maysL t c b) (statsL t c b) (ownsL t c b)
end Go.Proofs.YtdpbcfjfnclpiaaDoor
namespace Go.Proofs.YtdpbcfjfnclpiaaDoor
set_option linter.unusedSimpArgs false
set_option linter.unusedVariables false
open Go.RowKit
abbrev Ac := Int × Int × Wd
def zW : Wd := (0, 0, 0)
structure RK where
 ms : List Nat
 ss : List Nat
 os : List Nat
 place : Int → Int × Int
 lg : List Wd → Nat → Wd
 sz : Nat
structure RS where
 ph : Nat
 i : Nat
 j : Nat
 met : Wd
 ld : List Wd
 st : List Nat
section
variable (K : RK)
def rOwn (s : RS) : RS × Ac :=
 match K.os[s.i]? with
 | some p => ({ s with ph := 8 }, (1, p, zW))
 | none => match s.st with
  | p :: _ => ({ s with j := 0, ph := 10 }, (7, p, zW))
  | [] => ({ s with j := 0, ph := 12 }, (0, 0, zW))
def rStatus (s : RS) : RS × Ac :=
 match K.ss[s.i]? with
 | some p => ({ s with ph := 6 }, (1, p, zW))
 | none => rOwn K { s with i := 0 }
def rWord (s : RS) : RS × Ac :=
 match K.ms[s.i]? with
 | some p => ({ s with ph := 1 }, (1, p, zW))
 | none => match s.st with
  | p :: _ => ({ s with i := 0, j := 0, ph := 4 }, (7, p, zW))
  | [] => rStatus K { s with i := 0, j := 0 }
def rStore (s : RS) (ph at_ : Nat) (w : Wd) : RS × Ac := ({ s with ph := ph, st := s.st ++ [at_] }, (3, at_, w))
def layAt (w : List Wd) (from_ : Nat) : List Wd → List Wd
 | [] => w
 | x :: r => layAt (w.set from_ x) (from_ + 1) r
def rPl (s : RS) : Int × Int := K.place (whoN s.met.2.2).1
def rImg (s : RS) (at_ : Nat) : List Wd :=
 ((if 0 < (rPl K s).2 then layAt (List.replicate K.sz zW) (rPl K s).1.toNat s.ld else List.replicate K.sz zW)).set at_ s.met
def rPlain (s : RS) : RS × Ac := rStore s 3 (K.ms.getD s.i 0) (K.lg (rImg K s (K.ms.getD s.i 0)) (K.ms.getD s.i 0))
def rMany (s : RS) : Nat :=
 match s.ld[1]? with
 | some x => if 1 ≤ x.1 ∧ x.1 ≤ (rPl K s).2 then 2 + 3 * x.1.toNat else 2
 | none => 2
def rNext (s : RS) (g : Wd) : RS × Ac :=
 if s.ph = 0 then rWord K s
 else if s.ph = 1 then
  (if g.2.2 = 0 then rWord K { s with i := s.i + 1 }
   else
    let s1 := { s with met := g, ld := [] }
    if (whoN g.2.2).1 = 0 ∨ (rPl K s1).2 = 0 then rPlain K s1 else ({ s1 with ph := 2 }, (1, (rPl K s1).1, zW)))
 else if s.ph = 2 then
  (let s1 := { s with ld := s.ld ++ [g] }
   if s1.ld.length < rMany K s1 then (s1, (1, (rPl K s1).1 + s1.ld.length, zW)) else rPlain K s1)
 else if s.ph = 3 then rWord K { s with i := s.i + 1 }
 else if s.ph = 4 ∨ s.ph = 10 then
  (match s.st[s.j + 1]? with
   | some p => ({ s with j := s.j + 1 }, (7, p, zW))
   | none => ({ s with j := s.j + 1, ph := s.ph + 1 }, (8, 0, zW)))
 else if s.ph = 5 then rStatus K { s with st := [] }
 else if s.ph = 6 then
  (if undB g = true then rStore s 7 (K.ss.getD s.i 0) (2, g.2.1, 0) else rStatus K { s with i := s.i + 1 })
 else if s.ph = 7 then rStatus K { s with i := s.i + 1 }
 else if s.ph = 8 then
  (if wdB g zW = true then rOwn K { s with i := s.i + 1 } else rStore s 9 (K.os.getD s.i 0) zW)
 else if s.ph = 9 then rOwn K { s with i := s.i + 1 }
 else ({ s with ph := 12 }, (0, 0, zW))
structure CS where
 pl : List Nat
 sl : List Nat
 th : List Nat
 step : Nat
 part : Nat
 loads : List Nat
 acts : List Ac
 stored : List Nat
 loaded : List (Nat × Wd)
 loading : Bool
 ended : Bool
def cLast (c : CS) : Wd := match c.loaded.getLast? with | some f => f.2 | none => zW
def cHead (c : CS) : Wd := match c.loaded with | f :: _ => f.2 | [] => zW
def cStore (c : CS) (at_ : Nat) (w : Wd) : CS := { c with acts := c.acts ++ [(3, (at_ : Int), w)], stored := c.stored ++ [at_] }
def cPl (x : Wd) : Int × Int := K.place (whoN x.2.2).1
def cWho (x : Wd) : Bool := decide (x.2.2 ≠ 0) && (decide (0 < (whoN x.2.2).1) && decide (0 ≤ (cPl K x).1))
def cImg (ld : List (Nat × Wd)) : List Wd := ld.foldl (fun w f => w.set f.1 f.2) (List.replicate K.sz zW)
def cFin (c : CS) (at_ : Nat) (rest : List Nat) : CS :=
 { (if (cHead c).2.2 = 0 then c else cStore c at_ (K.lg (cImg K c.loaded) at_)) with pl := rest, part := 0 }
def cPlain (c : CS) : CS × Bool :=
 match c.pl with
 | [] => (c, true)
 | at_ :: rest =>
  if c.part = 0 then ({ c with loaded := [], loads := [at_], part := 1 }, false)
  else if c.part = 1 then
   (if cWho K (cLast c) = true then ({ c with loads := [(cPl K (cLast c)).1.toNat, (cPl K (cLast c)).1.toNat + 1], part := 2 }, false) else (cFin K c at_ rest, false))
  else if c.part = 2 then
   (if 1 ≤ (cLast c).1 ∧ (cLast c).1 ≤ (cPl K (cHead c)).2 then ({ c with part := 3, loads := c.loads ++ (List.range (3 * (cLast c).1.toNat)).map (fun i => (cPl K (cHead c)).1.toNat + 2 + i) }, false) else (cFin K { c with part := 3 } at_ rest, false))
  else (cFin K c at_ rest, false)
def cKeep (c : CS) : CS := { c with acts := c.acts ++ c.stored.map (fun (p : Nat) => ((7 : Int), (p : Int), zW)) ++ (if c.stored.isEmpty then [] else [(8, 0, zW)]), stored := [] }
def cSettle (c : CS) : CS × Bool :=
 match c.sl with
 | [] => (c, true)
 | at_ :: rest =>
  if c.part = 0 then ({ c with loaded := [], loads := [at_], part := 1 }, false)
  else ({ (if undB (cLast c) = true then cStore c at_ (2, (cLast c).2.1, 0) else c) with sl := rest, part := 0 }, false)
def cQuiet (c : CS) : CS × Bool :=
 match c.th with
 | [] => (c, true)
 | at_ :: rest =>
  if c.part = 0 then ({ c with loaded := [], loads := [at_], part := 1 }, false)
  else ({ (if wdB (cLast c) zW = true then c else cStore c at_ zW) with th := rest, part := 0 }, false)
def cPhase (c : CS) : CS × Bool :=
 if c.step = 0 then cPlain K c else if c.step = 2 then cSettle c else if c.step = 3 then cQuiet c else (cKeep c, true)
inductive Spin : Nat → CS → CS → Ac → Bool → Prop
 | act (c : CS) (a : Ac) (r : List Ac) (h : c.acts = a :: r) : Spin 0 c { c with acts := r } a false
 | load (c : CS) (p : Nat) (r : List Nat) (h : c.acts = []) (h2 : c.loads = p :: r) : Spin 0 c { c with loading := true } (1, p, zW) false
 | done (c : CS) (h : c.acts = []) (h2 : c.loads = []) (h3 : 5 ≤ c.step) : Spin 0 c { c with ended := true } (0, 0, zW) true
 | more (n : Nat) (c c' : CS) (a : Ac) (d : Bool) (h : c.acts = []) (h2 : c.loads = []) (h3 : c.step < 5) (hb : c.stored.length ≤ 50000) (h4 : Spin n (if (cPhase K c).2 = true then { (cPhase K c).1 with step := (cPhase K c).1.step + 1 } else (cPhase K c).1) c' a d) : Spin (n + 1) c c' a d
def cTake (c : CS) (g : Wd) : CS := if c.loading = true then { c with loaded := c.loaded ++ [(c.loads.headD 0, g)], loads := c.loads.tail, loading := false } else c
end
structure KOk (K : RK) : Prop where
 low : ∀ p ∈ K.ms, ∀ who, 0 ≤ (K.place who).1 → p < (K.place who).1.toNat
 room : ∀ who, (0 ≤ (K.place who).1 ↔ (K.place who).2 ≠ 0) ∧ 0 ≤ (K.place who).2
def ldAt (f : Nat) : List Wd → List (Nat × Wd)
 | [] => []
 | x :: r => (f, x) :: ldAt (f + 1) r
theorem ldAt_snoc : ∀ (f : Nat) (l : List Wd) (g : Wd), ldAt f l ++ [(f + l.length, g)] = ldAt f (l ++ [g])
 | f, [], g => by simp [ldAt]
 | f, x :: r, g => by
  simp only [ldAt, List.cons_append, List.length_cons, List.cons.injEq, true_and]
  rw [← ldAt_snoc (f + 1) r g]
  congr 3
  omega
theorem layAt_set : ∀ (l : List Wd) (w : List Wd) (f p : Nat) (x : Wd), p < f → layAt (w.set p x) f l = (layAt w f l).set p x
 | [], _, _, _, _, _ => rfl
 | y :: r, w, f, p, x, h => by
  rw [layAt, layAt, List.set_comm _ _ (by omega), layAt_set r _ (f + 1) p x (by omega)]
theorem fold_lay : ∀ (l : List Wd) (w : List Wd) (f : Nat), (ldAt f l).foldl (fun w f => w.set f.1 f.2) w = layAt w f l
 | [], _, _ => rfl
 | x :: r, w, f => by rw [ldAt, List.foldl_cons, layAt]; exact fold_lay r _ _
theorem img_eq (K : RK) {s : RS} {p : Nat} (h : 0 < (rPl K s).2) (hp : p < (rPl K s).1.toNat) : cImg K ((p, s.met) :: ldAt (rPl K s).1.toNat s.ld) = rImg K s p := by
 unfold cImg rImg
 rw [List.foldl_cons, fold_lay, if_pos h, layAt_set _ _ _ _ _ hp]
theorem img_one (K : RK) {s : RS} {p : Nat} (h : s.ld = []) : cImg K [(p, s.met)] = rImg K s p := by
 unfold cImg rImg
 rw [h]
 simp [layAt]
structure Rel0 (K : RK) (c : CS) (s : RS) : Prop where
 ended : c.ended = false
 acts : c.acts = []
 stored : c.stored = s.st
structure Wait (c : CS) (p : Nat) : Prop where
 loads : c.loads = [p]
 loaded : c.loaded = []
 loading : c.loading = true
 part : c.part = 1
structure Idle (c : CS) : Prop where
 loads : c.loads = []
 loading : c.loading = false
 part : c.part = 0
inductive Rel (K : RK) (c : CS) (s : RS) : Prop
 | p1 (p : Nat) (h : s.ph = 1) (h0 : Rel0 K c s) (hs : c.step = 0) (hp : K.ms[s.i]? = some p) (hl : c.pl = K.ms.drop s.i) (h1 : c.sl = K.ss) (h2 : c.th = K.os) (hw : Wait c p)
 | p2 (p : Nat) (h : s.ph = 2) (h0 : Rel0 K c s) (hs : c.step = 0) (hp : K.ms[s.i]? = some p) (hl : c.pl = K.ms.drop s.i) (h1 : c.sl = K.ss) (h2 : c.th = K.os) (hld : c.loading = true)
  (hm : s.met.2.2 ≠ 0) (hw : 0 < (whoN s.met.2.2).1) (ha : 0 ≤ (rPl K s).1) (hloaded : c.loaded = (p, s.met) :: ldAt (rPl K s).1.toNat s.ld)
  (hc : (c.part = 2 ∧ s.ld = [] ∧ c.loads = [(rPl K s).1.toNat, (rPl K s).1.toNat + 1]) ∨ (∃ x, c.part = 2 ∧ s.ld = [x] ∧ c.loads = [(rPl K s).1.toNat + 1]) ∨
       (∃ x, c.part = 3 ∧ s.ld[1]? = some x ∧ (1 ≤ x.1 ∧ x.1 ≤ (rPl K s).2) ∧ s.ld.length < 2 + 3 * x.1.toNat ∧ c.loads = (List.range (2 + 3 * x.1.toNat - s.ld.length)).map (fun k => (rPl K s).1.toNat + s.ld.length + k)))
 | p3 (h : s.ph = 3) (h0 : Rel0 K c s) (hs : c.step = 0) (hp : s.i < K.ms.length) (hl : c.pl = K.ms.drop (s.i + 1)) (h1 : c.sl = K.ss) (h2 : c.th = K.os) (hi : Idle c)
 | p4 (h : s.ph = 4) (he : c.ended = false) (hst : c.stored = []) (hs : c.step = 2) (hj : s.j < s.st.length) (hi0 : s.i = 0) (ha : c.acts = (s.st.drop (s.j + 1)).map (fun (p : Nat) => ((7 : Int), (p : Int), zW)) ++ [(8, 0, zW)]) (h1 : c.sl = K.ss) (h2 : c.th = K.os) (hi : Idle c)
 | p5 (h : s.ph = 5) (he : c.ended = false) (hst : c.stored = []) (hs : c.step = 2) (ha : c.acts = []) (hi0 : s.i = 0) (h1 : c.sl = K.ss) (h2 : c.th = K.os) (hi : Idle c)
 | p6 (p : Nat) (h : s.ph = 6) (h0 : Rel0 K c s) (hs : c.step = 2) (hp : K.ss[s.i]? = some p) (hl : c.sl = K.ss.drop s.i) (h2 : c.th = K.os) (hw : Wait c p)
 | p7 (h : s.ph = 7) (h0 : Rel0 K c s) (hs : c.step = 2) (hp : s.i < K.ss.length) (hl : c.sl = K.ss.drop (s.i + 1)) (h2 : c.th = K.os) (hi : Idle c)
 | p8 (p : Nat) (h : s.ph = 8) (h0 : Rel0 K c s) (hs : c.step = 3) (hp : K.os[s.i]? = some p) (hl : c.th = K.os.drop s.i) (hw : Wait c p)
 | p9 (h : s.ph = 9) (h0 : Rel0 K c s) (hs : c.step = 3) (hp : s.i < K.os.length) (hl : c.th = K.os.drop (s.i + 1)) (hi : Idle c)
 | p10 (h : s.ph = 10) (he : c.ended = false) (hst : c.stored = []) (hs : c.step = 5) (hj : s.j < s.st.length) (ha : c.acts = (s.st.drop (s.j + 1)).map (fun (p : Nat) => ((7 : Int), (p : Int), zW)) ++ [(8, 0, zW)]) (hi : Idle c)
 | p11 (h : s.ph = 11) (he : c.ended = false) (hst : c.stored = []) (hs : c.step = 5) (ha : c.acts = []) (hi : Idle c)
 | p12 (h : s.ph = 12) (he : c.ended = true)
def Both (K : RK) (c : CS) (r : RS × Ac) : Prop := ∃ n c', Spin K n c c' r.2 (decide (r.1.ph = 12)) ∧ Rel K c' r.1
end Go.Proofs.YtdpbcfjfnclpiaaDoor
