/- Plain: what recovery makes of the words: words put at places, one after the other; the places of a layout. Plain: recovery is idempotent, turns no logical word, keeps what is decided, and what it leaves is clean (the layout of law 20). Walks of package redo: may, statuses, own. Walks of package model's New, At, Len, Words, and slices.Clone on words. The walk of package redo's Words. The walk of law 20's Words: it returns words of the layout's size, or says that it cannot. -/
import Derived.Test.YtiacdohaiidehaaGreatDoorPk48
namespace Go.Proofs.YtiacdohaiidehaaGreatDoor
set_option linter.unusedSimpArgs false
set_option linter.unusedVariables false
open Go.RowKit
def put1 (g : Nat → Option Wd) (L : List Wd) (p : Nat) : List Wd := match g p with | some x => L.set p x | none => L
def putF (g : Nat → Option Wd) : List Wd → List Nat → List Wd
 | L, [] => L
 | L, p :: ps => putF g (put1 g L p) ps
def maysTo (t c b : Int) (n : Nat) : List Nat := (List.range n).filter (fun p => mayN t c b p)
def maysL (t c b : Int) : List Nat := maysTo t c b (sizeN t c b).toNat
def slotTo (t c b : Int) (n : Nat) : List Nat := (List.range n).map (fun k : Nat => (atN t c b 4 k 0).toNat)
def blockTo (t c b : Int) (n : Nat) : List Nat := (List.range n).map (fun k : Nat => (atN t c b 6 k 0).toNat)
def statsL (t c b : Int) : List Nat := slotTo t c b t.toNat ++ blockTo t c b b.toNat
def ownTo (t c b : Int) (n : Nat) : List Nat := (List.range n).flatMap (fun k : Nat => [(atN t c b 1 k 0).toNat, (atN t c b 1 k 1).toNat])
def ownsL (t c b : Int) : List Nat := ownTo t c b t.toNat
def undB (x : Wd) : Bool := decide (x.1 = 0) || decide (x.1 = 3)
def logG (f : Nat → Wd) (p : Nat) : Option Wd := some (f p)
def statG (L : List Wd) (p : Nat) : Option Wd := match L[p]? with | some x => if undB x = true then some (2, x.2.1, 0) else none | none => none
def zeroG (_ : Nat) : Option Wd := some (0, 0, 0)
def redoW (f : Nat → Wd) (L : List Wd) (ms ss os : List Nat) : List Wd := putF zeroG (putF (statG L) (putF (logG f) L ms) ss) os
def redoL (t c b : Int) (L : List Wd) : List Wd := redoW (fun p => (logicN t c b (L.take (sizeN t c b).toNat) p).1) L (maysL t c b) (statsL t c b) (ownsL t c b)
def redoN (t c b : Int) (L : List Wd) : List Wd × Int := if checkN t c b ≠ 0 ∨ (L.length : Int) < sizeN t c b then ([], 1) else (redoL t c b L, 0)
def cleanW (L : List Wd) (ms ss os : List Nat) : Bool :=
 ms.all (fun p => match L[p]? with | some x => decide (x.2.2 = 0) | none => true) && (ss.all (fun p => match L[p]? with | some x => !undB x | none => true) && os.all (fun p => match L[p]? with | some x => wdB x (0, 0, 0) | none => true))
def cleanN (t c b : Int) (L : List Wd) : Bool := if checkN t c b ≠ 0 ∨ (L.length : Int) < sizeN t c b then false else cleanW L (maysL t c b) (statsL t c b) (ownsL t c b)
open Go.RowKit
theorem size31 : sizeN 3 8 1 = 416 := by kernel_rfl
section
variable {L : List Wd} (hl : L.length = 416)
include hl
end
open Go.RowKit
def locE (x : Nat) : List Value := [.int .i64 x]
def Lo (w : World) (base : Nat) (v : Value) (l : List Nat) : Prop := Own w base 42 1 locE v l
open Go.RowKit
abbrev Wsl (w : World) (v : Value) (l : List Wd) : Prop := Sl w 3 wdE v l
def clr (x : Wd) : Wd := (x.1, x.2.1, 0)
def newL (l : List Wd) : List Wd := l.map clr
def newTo (l : List Wd) (j : Nat) : List Wd := (l.take j).map clr ++ l.drop j
open Go.RowKit
theorem Sl.grnV {α : Type} {size : Nat} {enc : α → List Value} (henc : ∀ x, (enc x).length = size) {g : Nat} {w w' : World} {v : Value} {l : List α} (h : Sl w size enc v l) (k : Grn g w w') (hb : ∀ a n c, v = .slice (some a) n c → a.block ≠ g) : Sl w' size enc v l := by
 obtain ⟨a, c, rfl, hm, hl⟩ := h
 refine ⟨a, c, rfl, hm, fun hn => ?_⟩
 obtain ⟨b, o, rfl, hbl, hc⟩ := hl hn
 have hne := hb _ _ _ rfl
 refine ⟨b, o, rfl, Nat.lt_of_lt_of_le hbl k.size, fun i x hx j hj => ?_⟩
 have h1 := hc i x hx j hj
 rw [List.getElem?_eq_getElem (by rw [henc]; exact hj)] at h1 ⊢
 exact k.cell hne h1
theorem Own.apart {α : Type} {enc : α → List Value} {base : Nat} {e : TypeId} {size : Nat} {v : Value} {l : List α} {w : World} (h : Own w base e size enc v l) {g : Nat} (hg : g < base) : ∀ a n c, v = .slice (some a) n c → a.block ≠ g := by
 rintro a n c rfl
 rcases h.2 with ⟨h1, _⟩ | ⟨g', cap, cur, h1, hb, _⟩
 ·cases h1
 ·simp only [Value.slice.injEq, Option.some.injEq] at h1
  rw [h1.1]; dsimp only; omega
def RwPost (w : World) (t c b : Int) (L : List Wd) (y : Ending) (w' : World) : Prop := ∃ v, y = .returned (.tuple #[v, .int .i64 (redoN t c b L).2]) ∧ (∃ r, w' = ext w r) ∧ Ws w' w.heap.size v (redoN t c b L).1
open Go.RowKit
def Im (M : List Wd) : Prop := M.length = 416 ∧ ∀ a ∈ M, WdOk a
theorem Im.set {M : List Wd} (h : Im M) (i : Nat) {x : Wd} (hx : WdOk x) : Im (M.set i x) := ⟨by rw [List.length_set]; exact h.1, set_ok h.2 hx i⟩
theorem first31 : (firstL 3 8 1).length = 416 := by kernel_rfl
theorem Im.first : Im (firstL 3 8 1) := ⟨first31, firstL_ok _ _ _⟩
theorem slot31 (q : Nat) (hq : q < 3) : atN 3 8 1 4 (wrap64 ((q : Int) + 1 - 1)) 0 = ((64 + q * 104 : Nat) : Int) := by
 have h : q = 0 ∨ q = 1 ∨ q = 2 := by omega
 rcases h with rfl | rfl | rfl
 ·exact (show atN 3 8 1 4 (wrap64 0) 0 = 64 by kernel_rfl)
 ·exact (show atN 3 8 1 4 (wrap64 1) 0 = 168 by kernel_rfl)
 ·exact (show atN 3 8 1 4 (wrap64 2) 0 = 272 by kernel_rfl)
theorem few20_len {sw : List Swp} (h : few20 sw = true) : sw.length ≤ 3 ∧ ∀ a ∈ sw, a.2.length ≤ 6 := by
 unfold few20 at h
 rw [Bool.and_eq_true, decide_eq_true_eq] at h
 refine ⟨h.2, fun a ha => ?_⟩
 rw [List.take_of_length_le (by omega)] at h
 have := List.all_eq_true.1 h.1 a ha
 simpa using this
def W20Post (w : World) (y : Ending) (w' : World) : Prop := (∃ r, w' = ext w r) ∧ (y = .returned (.tuple #[.slice none 0 0, .bool false]) ∨ ∃ v L, y = .returned (.tuple #[v, .bool true]) ∧ Im L ∧ Ws w' w.heap.size v L)
section
variable (a0 a1 a2 a3 a4 a5 b0 b1 b2 b3 b4 b5 : Int)
end
end Go.Proofs.YtiacdohaiidehaaGreatDoor
