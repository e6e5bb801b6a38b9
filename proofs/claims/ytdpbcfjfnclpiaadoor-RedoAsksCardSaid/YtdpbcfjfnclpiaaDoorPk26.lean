/- The frame that all laws of this seat share: an argument reads behind the call as it read before, wherever the call has only made new memory; what the listed table gives a walk. The frame of layer 11's laws: the listed table, a layout by value. Arguments opened: a case of law 20 and of law 25. Walks of law 20's small functions: Plan, Few, Cell, Ref, asks, Entries. Walks of law 20's asks and Entries. Plain: recovery is idempotent, turns no logical word, keeps what is decided, and what it leaves is clean (the layout of law 20). The walk of law 20's Words: it returns words of the layout's size, or says that it cannot. The walk of law 25's words: words of the layout's size, or none. Worlds in which one block of the call's own has been written, the block told by the slice that lies there. No program in sight. The walk of law 25's kind at the layout of law 20. -/
import Derived.Test.YtdpbcfjfnclpiaaDoorRows
import Derived.Test.YtdpbcfjfnclpiaaDoorPk00
import Derived.ProofKit
import Derived.LaidMore
import Derived.OpenShut
import Derived.Stop.Joined
import Derived.Lib.SmallJoins
import Derived.Lib.LaidTab
import Derived.SevenTiedAt
import Derived.Test.YtdpbcfjfnclpiaaDoorPk01
import Derived.Test.YtdpbcfjfnclpiaaDoorPk15
import Derived.Deep.DeepCutAuto
import Derived.Test.YtdpbcfjfnclpiaaDoorPk12
import Derived.Test.YtdpbcfjfnclpiaaDoorPk17
import Derived.Test.YtdpbcfjfnclpiaaDoorPk18
import Derived.Test.YtdpbcfjfnclpiaaDoorPk16
import Derived.Test.YtdpbcfjfnclpiaaDoorPk10
namespace Go.Proofs.YtdpbcfjfnclpiaaDoor
set_option linter.unusedSimpArgs false
set_option linter.unusedVariables false
open Go.ChangeShapes Go.WideShapes Go.ChangeAt Go.WideMaps Go.WideElems Go.RowKit Go.Joins
theorem Tryd.own : ownKnob Tryd.prog.godebug = none := by kernel_rfl
theorem Tryd.laidOut : laidOutB Tryd.prog = true := by kernel_rfl
theorem trodAll_ext {H : Type} {enc : TypeId × Value → H} {W W' : World} (hE : Ext W W') : ∀ (ts : List TypeId) (vs : List Value) (ds : List (DataW H)) (p : List MemPlace), (∀ t ∈ ts, Tryd.prog.readableRec t = true ∧ t < Tryd.prog.types.size) →
 DataW.TrodAll enc Tryd.prog W 0 (fun _ => true) true ts vs ds p → (∀ x ∈ p, x.block < W.heap.size) → DataW.TrodAll enc Tryd.prog W' 0 (fun b => decide (b < W.heap.size)) true ts vs ds p := by
 intro ts
 induction ts with
 | nil =>
  intro vs ds p _ h _
  obtain ⟨rfl, rfl, rfl⟩ := trodAll_nil h
  exact trodAll_mk0
 | cons t ts ih =>
  intro vs ds p ht h hlt
  obtain ⟨v, vs', d, ds', p1, q1, rfl, rfl, rfl, h1, h2⟩ := trodAll_cons h
  refine ⟨p1, q1, ?_, ih vs' ds' q1 (fun t' h' => ht t' (List.mem_cons_of_mem _ h')) h2 (fun x hx => hlt x (List.mem_append_right _ hx)), rfl⟩
  exact Below.trod Tryd.laidOut (ht t (List.mem_cons_self ..)).1 (ht t (List.mem_cons_self ..)).2 h1 hE.below (fun x hx => hlt x (List.mem_append_left _ hx))
theorem law_post {H : Type} {enc : TypeId × Value → H} (f : Func) (s : ChangeSpec) {W W' : World} {args : Array Value} {ds : List (DataW H)} {p : List MemPlace}
 (hv : s.vars = []) (hres : f.resultTypes.toList = [4]) (hrs : f.resultTypes.size = 1)
 (hW : DataW.Whole enc Tryd.prog f.params.toList s.vars false W args.toList ds [] p)
 (hr : (s.fn H (ds ++ [])).results = [.lit (.bool true)]) (ha : (s.fn H (ds ++ [])).args = ds) (hvs : (s.fn H (ds ++ [])).vars = [])
 (ht : ∀ t ∈ f.params.toList, Tryd.prog.readableRec t = true ∧ t < Tryd.prog.types.size) (hE : Ext W W') :
 s.post enc Tryd.prog f false true false false W args (.bool true) W' := by
 have hW2 := hW
 obtain ⟨p1, q1, hA, hV, rfl, _, _⟩ := hW
 rw [hv] at hV
 obtain ⟨_, rfl⟩ := trodVars_none hV
 refine ⟨ds, [], _, [], p1, [], hW2, ?_, ?_, ?_, hE.below.frame _, fun h => by cases h⟩
 ·rw [hr, hres, hrs]; exact trodAll_mk1 (shut_bool Tryd.underlying4 true)
 ·rw [ha]; exact trodAll_ext hE _ _ _ _ ht hA (fun x hx => hW2.lt x (List.mem_append_left _ hx))
 ·rw [hv, hvs]; rfl
end Go.Proofs.YtdpbcfjfnclpiaaDoor
namespace Go.Proofs.YtdpbcfjfnclpiaaDoor
set_option linter.unusedSimpArgs false
set_option linter.unusedVariables false
open Go.ChangeShapes Go.WideShapes Go.ChangeAt Go.WideMaps Go.WideElems Go.RowKit Go.Joins
abbrev layLaid : List (String × DataW Unit) := [("simulcast/layout.sizes", Rows.laid_simulcast_layout_sizes)]
theorem lay_met (os : Os) (args : Array Value) : laidMetH Tryd.prog layLaid ((World.doorLaid Tryd.prog 200 os).forCall (fun _ _ => 0) ⟨#[], args, []⟩).memory :=
 laidMetH_of_parts3 (fuel := 8) (laidMet_of_run' 8 (by kernel_rfl) (by kernel_rfl)) (by kernel_rfl) (by kernel_rfl)
theorem lay_global : Tryd.prog.globalNamed "simulcast/layout.sizes" = some 0 := by kernel_rfl
theorem lay_gtype : (Tryd.prog.globals[0]?).map (·.type) = some 111 := by kernel_rfl
theorem szs_of_laid {W : World} (h : laidMetH Tryd.prog layLaid W) : Szs W := by
 rw [MakeChecks.laidMetH_plain _ _ _ (by kernel_rfl)] at h
 have ht := Lib.tabIs_of_head (P := Tryd.prog) (W := W) (name := "simulcast/layout.sizes") (k := .i64) (zs := [8, 8, 8, 1, 104, 0, 32]) (rest := []) lay_global lay_gtype Tryd.underlying111 Tryd.underlying3 (by kernel_rfl) (by kernel_rfl) h
 intro i hi
 have := ht.cell lay_global i (by simpa using hi)
 rw [this]
 match i, hi with
 | 0, _ => rfl
 | 1, _ => rfl
 | 2, _ => rfl
 | 3, _ => rfl
 | 4, _ => rfl
 | 5, _ => rfl
 | 6, _ => rfl
end Go.Proofs.YtdpbcfjfnclpiaaDoor
namespace Go.Proofs.YtdpbcfjfnclpiaaDoor
set_option linter.unusedSimpArgs false
set_option linter.unusedVariables false
open Go.ChangeShapes Go.WideShapes Go.RowKit Go.Deep Go.Joins
section
variable {H : Type} {enc : TypeId × Value → H} {P : Program} {w : World} {base : Nat} {spare : Nat → Bool} {held : Bool}
end
abbrev It := Int × Bool × Bool × Int × Bool
def itE (x : It) : List Value := [.int .u8 x.1, .bool x.2.1, .bool x.2.2.1, .int .i8 x.2.2.2.1, .bool x.2.2.2.2]
theorem itE_len (x : It) : (itE x).length = 5 := rfl
def ItOk (x : It) : Prop := (0 ≤ x.1 ∧ x.1 ≤ 255) ∧ (-128 ≤ x.2.2.2.1 ∧ x.2.2.2.1 ≤ 127)
abbrev Swp := Value × List It
def swE (x : Swp) : List Value := [x.1]
def SwOk (w : World) (x : Swp) : Prop := Sl w 5 itE x.1 x.2 ∧ ∀ a ∈ x.2, ItOk a
theorem SwOk.of {w w' : World} {x : Swp} (h : SwOk w x) (he : Ext w w') : SwOk w' x := ⟨h.1.of itE_len he, h.2⟩
section
variable {H : Type} {enc : TypeId × Value → H} {w : World} {base : Nat} {spare : Nat → Bool} {held : Bool}
def c20E (va vb : List Int) (sv : Value) : List Value := va.map (Value.int .i8) ++ (vb.map (Value.int .u8) ++ [sv])
def c25E (va vb : List Int) (sv : Value) (ob : List Bool) (st ow : List Int) (av nv : Value) : List Value := c20E va vb sv ++ (ob.map Value.bool ++ (st.map (Value.int .u8) ++ (ow.map (Value.int .i8) ++ [av, nv])))
def u16E (x : Int) : List Value := [.int .u16 x]
end
end Go.Proofs.YtdpbcfjfnclpiaaDoor
namespace Go.Proofs.YtdpbcfjfnclpiaaDoor
set_option linter.unusedSimpArgs false
set_option linter.unusedVariables false
open Go.RowKit
def few20 (sw : List Swp) : Bool := (sw.take 4).all (fun x => decide (x.2.length ≤ 6)) && decide (sw.length ≤ 3)
section
variable (a0 a1 a2 a3 a4 a5 b0 b1 b2 b3 b4 b5 : Int)
end
end Go.Proofs.YtdpbcfjfnclpiaaDoor
namespace Go.Proofs.YtdpbcfjfnclpiaaDoor
set_option linter.unusedSimpArgs false
set_option linter.unusedVariables false
open Go.RowKit
def firstIt (l : List It) (i : Nat) : Option It := l.find? (fun x => decide (x.1 % 6 = (i : Int)))
def entC (va vb : List Int) (i : Nat) (x : It) : En := ⟨56 + i, va.getD i 0 + (if x.2.1 then 1 else 0), vb.getD i 0, 0, if x.2.2.1 then x.2.2.2.1 else va.getD i 0 + (if x.2.1 then 1 else 0), x.2.2.1⟩
def entsTo (va vb : List Int) (l : List It) (n : Nat) : List En := (List.range n).filterMap (fun i => (firstIt l i).map (entC va vb i))
def BlPost (w : World) (y : Ending) (w' : World) : Prop := (∃ b, y = .returned (.bool b)) ∧ ∃ r, w' = ext w r
section
variable (a0 a1 a2 a3 a4 a5 b0 b1 b2 b3 b4 b5 : Int)
end
end Go.Proofs.YtdpbcfjfnclpiaaDoor
namespace Go.Proofs.YtdpbcfjfnclpiaaDoor
set_option linter.unusedSimpArgs false
set_option linter.unusedVariables false
open Go.RowKit
section
variable {L : List Wd} (hl : L.length = 416)
include hl
end
end Go.Proofs.YtdpbcfjfnclpiaaDoor
namespace Go.Proofs.YtdpbcfjfnclpiaaDoor
set_option linter.unusedSimpArgs false
set_option linter.unusedVariables false
open Go.RowKit
def Im (M : List Wd) : Prop := M.length = 416 ∧ ∀ a ∈ M, WdOk a
theorem Im.set {M : List Wd} (h : Im M) (i : Nat) {x : Wd} (hx : WdOk x) : Im (M.set i x) := ⟨by rw [List.length_set]; exact h.1, set_ok h.2 hx i⟩
theorem first31 : (firstL 3 8 1).length = 416 := by kernel_rfl
theorem Im.first : Im (firstL 3 8 1) := ⟨first31, firstL_ok _ _ _⟩
def W20Post (w : World) (y : Ending) (w' : World) : Prop := (∃ r, w' = ext w r) ∧ (y = .returned (.tuple #[.slice none 0 0, .bool false]) ∨ ∃ v L, y = .returned (.tuple #[v, .bool true]) ∧ Im L ∧ Ws w' w.heap.size v L)
section
variable (a0 a1 a2 a3 a4 a5 b0 b1 b2 b3 b4 b5 : Int)
end
end Go.Proofs.YtdpbcfjfnclpiaaDoor
namespace Go.Proofs.YtdpbcfjfnclpiaaDoor
set_option linter.unusedSimpArgs false
set_option linter.unusedVariables false
open Go.RowKit
theorem Ws.val {w : World} {base g n c : Nat} {l : List Wd} (h : Ws w base (.slice (some ⟨g, 0, none⟩) n c) l) {q : Nat} {x y z : Int} (hx : l[q]? = some (x, y, z)) (u : Int) : Ws (w.setCell ⟨g, q * 3, none⟩ (.int .i64 u)) base (.slice (some ⟨g, 0, none⟩) n c) (l.set q (u, y, z)) :=
 Own.set wdE_len h hx (u, y, z) (j := 0) (by omega) (.int .i64 u) rfl (o := q * 3) (by omega)
section
variable (a0 a1 a2 a3 a4 a5 b0 b1 b2 b3 b4 b5 : Int) (o0 o1 o2 : Bool) (s0 s1 s2 w0 w1 w2 w3 w4 w5 : Int)
end
end Go.Proofs.YtdpbcfjfnclpiaaDoor
namespace Go.Proofs.YtdpbcfjfnclpiaaDoor
set_option linter.unusedSimpArgs false
set_option linter.unusedVariables false
open Go.RowKit
end Go.Proofs.YtdpbcfjfnclpiaaDoor
namespace Go.Proofs.YtdpbcfjfnclpiaaDoor
set_option linter.unusedSimpArgs false
set_option linter.unusedVariables false
open Go.RowKit
theorem Tryd.infoIntK : (Tryd.prog.info? 3).map (fun i => (i.zero, i.size, i.bytes)) = some (some (.int .i64 0), 1, 8) := by kernel_rfl
def Li (w : World) (base : Nat) (v : Value) (l : List Nat) : Prop := Own w base 3 1 locE v l
theorem mk_bools (n : Nat) (hn : n ≤ 100000) (w : World) : (Instr.makeSlice 26 (.int .i64 n) (.int .i64 n)).run Tryd.prog w =
 .ok (.slice (some ⟨w.heap.size, 0, none⟩) n n) (w.alloc (.cells (madeCells #[.bool false] (n * 1)) 4)) := by
 obtain ⟨i0, hi, hz0, hz1, hz2⟩ := info_parts Tryd.infoBool
 have := run_make (P := Tryd.prog) w 26 4 i0 _ Tryd.underlying26 hi hz0 .i64 .i64 n n (by omega) (by omega) (by rw [hz2]; omega) (by omega)
 have hcs : (Value.bool false).cells = #[.bool false] := by simp [Value.cells]
 rw [hz1, hcs] at this
 simpa using this
def bitsV (j : Nat) : List Value := (List.range 416).map (fun i => Value.bool (decide (i < j) && mayN 3 8 1 i))
theorem blk_bools {w : World} {g n : Nat} {L : List Bool} (h : Blk w g (L.map Value.bool)) (hn : L.length = n) (hb : n ≤ 100000) : Sl w 1 boE (.slice (some ⟨g, 0, none⟩) n n) L := by
 subst hn
 refine ⟨_, _, rfl, ⟨by omega, Nat.le_refl _⟩, fun _ => ⟨g, 0, rfl, h.1, fun i x hx j hj => ?_⟩⟩
 obtain rfl : j = 0 := by omega
 have := h.2.2 i (.bool x) (by rw [List.getElem?_map, hx]; rfl)
 rw [show 0 + i * 1 + 0 = i by omega, this]; rfl
theorem locs_flat_len (l : List Nat) : (l.flatMap locE).length = l.length * 1 := by
 induction l with
 | nil => rfl
 | cons y ys ih => simp only [List.flatMap_cons, List.length_append, locE_len, List.length_cons, Nat.add_mul]; rw [ih]; omega
theorem li_append_gb {ops : Array Oper} {rest : List Oper} {o : Oper} {a : Act} {Q : Exit → Act → World → Prop} {w : World} {base : Nat} {v : Value} {l : List Nat} (hgd : o.guard = none)
 (s x : Operand) (ho : o.op = .call { callee := .builtin .append, args := #[s, x], argTypes := #[29, 29] })
 (hbw : base ≤ w.heap.size) (hs : a.eval s = v) (hown : Li w base v l)
 (ad : Addr) (m c : Nat) (hx : a.eval x = .slice (some ad) m c) (news : List Nat) (hm : news.length = m)
 (hnews : ∀ (j : Nat) (u : Value), (news.flatMap locE)[j]? = some u → w.cell? (ad.add j) = some u)
 (hlen : l.length + m ≤ 1000000)
 (h : ∀ v' w', Li w' base v' (l ++ news) → w.grownBy w' v.ownBlock → (v'.ownBlock = v.ownBlock ∨ v'.ownBlock = some w.heap.size) → wpList Tryd.prog ops Q rest (a.put o.dst v') w') : wpList Tryd.prog ops Q (o :: rest) a w := by
 obtain ⟨i0, hi, hz0, hz1, hz2⟩ := info_parts Tryd.infoIntK
 have hl : (news.flatMap locE).length = m * 1 := by rw [← hm]; exact locs_flat_len news
 refine wpList_append_own_at w hgd s x 29 ho base 3 i0 _ 1 _ Tryd.underlying29 hi hz0 hz1 hz2 rfl (by decide) v l.length (l.flatMap locE) hs hown ad m c (news.flatMap locE) hx hl hnews
  (fun u hu => by obtain ⟨y, _, hy⟩ := List.mem_flatMap.1 hu; exact locE_one y u hy) (by unfold maxLen; omega) (by omega) hbw ?_
 intro v' w' h1 h2 _ h4
 refine h v' w' ?_ h2 h4
 have e1 : (l ++ news).length = l.length + m := by simp [hm]
 have e2 : (l ++ news).flatMap locE = l.flatMap locE ++ news.flatMap locE := by simp
 unfold Li Own
 rw [e1, e2]
 exact h1
end Go.Proofs.YtdpbcfjfnclpiaaDoor
