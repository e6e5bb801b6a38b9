/- The frame of layer 11's laws: the listed table, a layout by value. Arguments opened: a case of law 20 and of law 25. Slices of bools. Walks of the reference of descriptors: May, Right. Plain: the reference's Right, and the code's checks of entries. Plain: the reference's Place is the layout's. Plain: the reference's Read answers as the code's Read. Plain: the reference's Read is the code's; what is laid is read again. Plain: descriptors of different owners lie apart. The walk of package desc's Read, from the descriptor's head on. The contract of package desc's Read: every way. The walk of package desc's Logical. The walk of package desc's Logical. Words put into an image, one after the other. No program in sight but the type's number. The walk of law 19's laid. The walk of law 19's memory. Plain: Read looks at the owner's room alone; what is laid is read again, also behind another's. Plain: the images that the statements make hold words in range. A slice's rest. Plain: the kinds of answers of Read; the room of the reference's Place. Walks of law 20's small functions: Plan, Few, Cell, Ref, asks, Entries. -/
import Derived.Test.YtiacdohaiidehaaGreatDoorPk46
import Derived.Deep.DeepCutAuto
import Derived.Laws.Cover3
namespace Go.Proofs.YtiacdohaiidehaaGreatDoor
set_option linter.unusedSimpArgs false
set_option linter.unusedVariables false
open Go.ChangeShapes Go.WideShapes Go.ChangeAt Go.WideMaps Go.WideElems Go.RowKit Go.Joins
abbrev layLaid : List (String × DataW Unit) := [("simulcast/layout.sizes", Rows.laid_simulcast_layout_sizes)]
theorem lay_met (os : Os) (args : Array Value) : laidMetH Tryz.prog layLaid ((World.doorLaid Tryz.prog 200 os).forCall (fun _ _ => 0) ⟨#[], args, []⟩).memory :=
 laidMetH_of_parts3 (fuel := 8) (laidMet_of_run' 8 (by kernel_rfl) (by kernel_rfl)) (by kernel_rfl) (by kernel_rfl)
theorem lay_global : Tryz.prog.globalNamed "simulcast/layout.sizes" = some 0 := by kernel_rfl
theorem lay_gtype : (Tryz.prog.globals[0]?).map (·.type) = some 183 := by kernel_rfl
theorem szs_of_laid {W : World} (h : laidMetH Tryz.prog layLaid W) : Szs W := by
 rw [MakeChecks.laidMetH_plain _ _ _ (by kernel_rfl)] at h
 have ht := Lib.tabIs_of_head (P := Tryz.prog) (W := W) (name := "simulcast/layout.sizes") (k := .i64) (zs := [8, 8, 8, 1, 104, 0, 32]) (rest := []) lay_global lay_gtype Tryz.underlying183 Tryz.underlying3 (by kernel_rfl) (by kernel_rfl) h
 intro i hi
 have := ht.cell lay_global i (by simpa using hi)
 rw [this]
 match i, hi with
 | 0, _ => rfl
 | 1, _ => rfl
 | 2, _ => rfl
 | 3, _ => rfl
 | 4, _ => rfl
 | 5, _ => rfl
 | 6, _ => rfl
theorem Tryz.cellsLay : Tryz.prog.cellsOf 30 = 3 := by kernel_rfl
set_option maxRecDepth 100000 in
theorem open_lay {H : Type} {enc : TypeId × Value → H} {W : World} {base : Nat} {v : Value} {d : DataW H} {p : List MemPlace} (hv : Value.okWide Tryz.prog W .any base 30 v) (h : DataW.Trod enc Tryz.prog W 0 (fun _ => true) true 30 v d p) :
 ∃ t c b : Int, v = .agg #[.int .i64 t, .int .i64 c, .int .i64 b] ∧ (-9223372036854775808 ≤ t ∧ t ≤ 9223372036854775807) ∧ (-9223372036854775808 ≤ c ∧ c ≤ 9223372036854775807) ∧ (-9223372036854775808 ≤ b ∧ b ≤ 9223372036854775807) := by
 obtain ⟨c0, c1, c2, y0, y1, y2, m, rfl, rfl, rfl, hy0, hy1, hy2⟩ := open_agg3 Tryz.underlying30 (by kernel_rfl) Tryz.cellsLay hv h
 obtain ⟨t, e0, rfl, wt⟩ := DataW.trod_int Tryz.underlying3 hy0
 obtain ⟨c, e1, rfl, wc⟩ := DataW.trod_int Tryz.underlying3 hy1
 obtain ⟨b, e2, rfl, wb⟩ := DataW.trod_int Tryz.underlying3 hy2
 simp at e0 e1 e2
 subst e0 e1 e2
 exact ⟨t, c, b, rfl, int_bd wt, int_bd wc, int_bd wb⟩
open Go.ChangeShapes Go.WideShapes Go.RowKit Go.Deep Go.Joins
section
variable {H : Type} {enc : TypeId × Value → H} {P : Program} {w : World} {base : Nat} {spare : Nat → Bool} {held : Bool}
end
abbrev It := Int × Bool × Bool × Int × Bool
def itE (x : It) : List Value := [.int .u8 x.1, .bool x.2.1, .bool x.2.2.1, .int .i8 x.2.2.2.1, .bool x.2.2.2.2]
theorem itE_len (x : It) : (itE x).length = 5 := rfl
def ItOk (x : It) : Prop := (0 ≤ x.1 ∧ x.1 ≤ 255) ∧ (-128 ≤ x.2.2.2.1 ∧ x.2.2.2.1 ≤ 127)
abbrev Swp := Value × List It
def swE (x : Swp) : List Value := [x.1]
theorem swE_len (x : Swp) : (swE x).length = 1 := rfl
def SwOk (w : World) (x : Swp) : Prop := Sl w 5 itE x.1 x.2 ∧ ∀ a ∈ x.2, ItOk a
theorem SwOk.of {w w' : World} {x : Swp} (h : SwOk w x) (he : Ext w w') : SwOk w' x := ⟨h.1.of itE_len he, h.2⟩
section
variable {H : Type} {enc : TypeId × Value → H} {w : World} {base : Nat} {spare : Nat → Bool} {held : Bool}
def c20E (va vb : List Int) (sv : Value) : List Value := va.map (Value.int .i8) ++ (vb.map (Value.int .u8) ++ [sv])
def c25E (va vb : List Int) (sv : Value) (ob : List Bool) (st ow : List Int) (av nv : Value) : List Value := c20E va vb sv ++ (ob.map Value.bool ++ (st.map (Value.int .u8) ++ (ow.map (Value.int .i8) ++ [av, nv])))
def u16E (x : Int) : List Value := [.int .u16 x]
end
open Go.RowKit
def boE (x : Bool) : List Value := [.bool x]
open Go.RowKit
def rmayB (ws : List Bool) (p : Int) : Bool := decide (0 ≤ p ∧ p < (ws.length : Int)) && ws.getD p.toNat false
def rbadB (q : Option En) (e : En) : Bool :=
 decide (e.loc < 0) || decide (4096 ≤ e.loc) || (match q with | some y => decide (e.loc ≤ y.loc) | none => false) || decide (e.ref ≠ 0) || (e.wr && decide (e.ver = 4294967295)) || (!e.wr && decide (e.new ≠ e.val))
def rightGo (q : Option En) : List En → Bool
 | [] => true
 | e :: r => !rbadB q e && rightGo (some e) r
def rightB (es : List En) : Bool := rightGo none es && decide (1 ≤ es.length ∧ es.length ≤ 32)
def prevE (es : List En) (j : Nat) : Option En := if j = 0 then none else es[j - 1]?
open Go.RowKit
def incP (q : Option En) : List En → Prop
 | [] => True
 | e :: r => (∀ y, q = some y → y.loc < e.loc) ∧ incP (some e) r
def ndecP (q : Option En) : List En → Prop
 | [] => True
 | e :: r => (∀ y, q = some y → y.loc ≤ e.loc) ∧ ndecP (some e) r
def nodP (pre : List En) : List En → Prop
 | [] => True
 | e :: r => pre.any (fun y => y.loc == e.loc) = false ∧ nodP (pre ++ [e]) r
open Go.RowKit
def mayL (t c b : Int) (n : Nat) : List Bool := (List.range n).map (fun i : Nat => mayN t c b i)
open Go.RowKit
def sameTo (l X : List Wd) (p : Nat) : Nat → Bool
 | 0 => true
 | k + 1 => sameTo l X p k && (match l[p + k]?, X[k]? with | some a, some b => wdB a b | _, _ => true)
def stN (x : Int) : Int := if 0 ≤ x ∧ x ≤ 3 then x else -1
def fitsB (T B sl rm : Int) (ws : List Bool) (who seq st : Int) (es : List En) : Bool :=
 decide (0 ≤ (rplaceN T B sl rm who).1) && decide (1 ≤ seq ∧ seq ≤ 16777215) && decide (0 ≤ st ∧ st ≤ 3) && decide ((es.length : Int) ≤ (rplaceN T B sl rm who).2) && rightB es && es.all (fun e => rmayB ws e.loc)
def rreadO (T B sl rm : Int) (ws : List Bool) (l : List Wd) (who : Int) : Option (Int × Int × List En) :=
 if (rplaceN T B sl rm who).1 < 0 then none
 else match l[(rplaceN T B sl rm who).1.toNat]?, l[(rplaceN T B sl rm who).1.toNat + 1]? with
  | some s, some n => if n.1 < 1 ∨ (rplaceN T B sl rm who).2 < n.1 then none
   else match unpackTo l ((rplaceN T B sl rm who).1.toNat + 2) n.1.toNat with
    | some es => if sameTo l (wordsW s.2.1 (stN s.1) es) (rplaceN T B sl rm who).1.toNat (2 + 3 * n.1.toNat) = true ∧ fitsB T B sl rm ws who s.2.1 (stN s.1) es = true then some (s.2.1, stN s.1, es) else none
    | none => none
  | _, _ => none
open Go.RowKit
open Go.RowKit
open Go.RowKit
open Go.RowKit
open Go.RowKit
def findW (p : Int) : List En → Option Int
 | [] => none
 | e :: r => if e.loc = p ∧ e.wr = true then some e.new else findW p r
def outW (x1 x2 : Int) : Option Int → Wd
 | some v => (v, (x2 + 1) % 4294967296, 0)
 | none => (x1, x2, 0)
def logicW (t c b : Int) (l : List Wd) (x : Wd) (p : Int) : Wd :=
 if (whoN x.2.2).1 = 0 then (x.1, x.2.1, 0) else match (readN t c b l (whoN x.2.2).1).2 with
  | none => (x.1, x.2.1, 0)
  | some (seq, st, es) => if seq = (whoN x.2.2).2 ∧ st = 1 then outW x.1 x.2.1 (findW p es) else (x.1, x.2.1, 0)
def logicN (t c b : Int) (l : List Wd) (p : Int) : Wd × Int :=
 if checkN t c b ≠ 0 ∨ (l.length : Int) < sizeN t c b then ((0, 0, 0), 1) else if mayN t c b p = false then ((0, 0, 0), 10)
 else match l[p.toNat]? with | some x => (logicW t c b l x p, 0) | none => ((0, 0, 0), 0)
open Go.RowKit
def LogPost (w : World) (t c b : Int) (l : List Wd) (p : Int) (y : Ending) (w' : World) : Prop :=
 y = .returned (.tuple #[.agg #[.int .i64 (logicN t c b l p).1.1, .int .u32 (logicN t c b l p).1.2.1, .int .u32 (logicN t c b l p).1.2.2], .int .i64 (logicN t c b l p).2]) ∧ ∃ r, w' = ext w r
theorem LogPost.mk {w : World} {t c b : Int} {l : List Wd} {p : Int} {w' : World} {x1 x2 x3 e : Int} (h : logicN t c b l p = ((x1, x2, x3), e)) (hr : ∃ r, w' = ext w r) :
 LogPost w t c b l p (.returned (.tuple #[.agg #[.int .i64 x1, .int .u32 x2, .int .u32 x3], .int .i64 e])) w' := by
 unfold LogPost; rw [h]; exact ⟨rfl, hr⟩
open Go.RowKit
theorem Ws.put {w : World} {base g n c : Nat} {l : List Wd} (h : Ws w base (.slice (some ⟨g, 0, none⟩) n c) l) {q : Nat} (hq : q < l.length) (x y z : Int) :
 Ws (((w.setCell ⟨g, q * 3, none⟩ (.int .i64 x)).setCell ⟨g, q * 3 + 1, none⟩ (.int .u32 y)).setCell ⟨g, q * 3 + 2, none⟩ (.int .u32 z)) base (.slice (some ⟨g, 0, none⟩) n c) (l.set q (x, y, z)) := by
 obtain ⟨⟨a1, a2, a3⟩, hx⟩ : ∃ a, l[q]? = some a := ⟨_, List.getElem?_eq_getElem hq⟩
 have h1 := Own.set wdE_len h hx (x, a2, a3) (j := 0) (by omega) (.int .i64 x) rfl (o := q * 3) (by omega)
 have hx1 : (l.set q (x, a2, a3))[q]? = some (x, a2, a3) := List.getElem?_set_self hq
 have h2 := Own.set wdE_len h1 hx1 (x, y, a3) (j := 1) (by omega) (.int .u32 y) rfl (o := q * 3 + 1) (by omega)
 rw [List.set_set] at h2
 have hx2 : (l.set q (x, y, a3))[q]? = some (x, y, a3) := List.getElem?_set_self hq
 have h3 := Own.set wdE_len h2 hx2 (x, y, z) (j := 2) (by omega) (.int .u32 z) rfl (o := q * 3 + 2) (by omega)
 rw [List.set_set] at h3
 exact h3
theorem Ws.cells {w : World} {base g n c : Nat} {l : List Wd} (h : Ws w base (.slice (some ⟨g, 0, none⟩) n c) l) {q : Nat} {x y z : Int} (hq : l[q]? = some (x, y, z)) :
 w.cell? ⟨g, q * 3, none⟩ = some (.int .i64 x) ∧ w.cell? ⟨g, q * 3 + 1, none⟩ = some (.int .u32 y) ∧ w.cell? ⟨g, q * 3 + 2, none⟩ = some (.int .u32 z) := by
 obtain ⟨g', c', e, _, hc⟩ := Own.cellsAt wdE_len h hq
 simp only [Value.slice.injEq, Option.some.injEq, Addr.mk.injEq] at e
 obtain ⟨⟨rfl, _⟩, _⟩ := e
 exact ⟨hc 0 (by omega), hc 1 (by omega), hc 2 (by omega)⟩
theorem Ws.open {w : World} {base : Nat} {v : Value} {l : List Wd} (h : Ws w base v l) (h0 : 0 < l.length) : ∃ g c, v = .slice (some ⟨g, 0, none⟩) l.length c ∧ base ≤ g ∧ g < w.heap.size := by
 rcases h.2 with ⟨h1, h2⟩ | ⟨g', cap, cur, h1, hb, hg, _⟩
 ·omega
 ·exact ⟨g', cap, h1, hb, (Array.getElem?_eq_some_iff.1 hg).1⟩
def putL (L X : List Wd) (p : Nat) : Nat → List Wd
 | 0 => L
 | k + 1 => (putL L X p k).set (p + k) (X.getD k (0, 0, 0))
open Go.RowKit
def laidL (t c b who seq st : Int) (es : List En) (L : List Wd) : List Wd :=
 if dcheckN t c b who seq st es = 0 then putL L (wordsW seq st es) (placeN t c b who).1.toNat (2 + 3 * es.length) else L
theorem wordsW_len (seq st : Int) (es : List En) : (wordsW seq st es).length = 2 + 3 * es.length := by
 unfold wordsW; rw [List.length_append, bodyW_len]; rfl
def LaidPost (w : World) (t c b who seq st : Int) (es : List En) (L : List Wd) (base g cp : Nat) (e : Ending) (w' : World) : Prop :=
 e = .returned (.bool (dcheckN t c b who seq st es == 0)) ∧ Grn g w w' ∧ Ws w' base (.slice (some ⟨g, 0, none⟩) L.length cp) (laidL t c b who seq st es L)
open Go.RowKit
def memTo (L : List Wd) (pl : List Pt) : Nat → List Wd
 | 0 => L
 | k + 1 => match pl[k]? with
  | some x => (memTo L pl k).set (x.1 % (L.length : Int)).toNat x.2
  | none => memTo L pl k
open Go.RowKit
open Go.RowKit
theorem set_ok {L : List Wd} (h : ∀ a ∈ L, WdOk a) {x : Wd} (hx : WdOk x) (i : Nat) : ∀ a ∈ L.set i x, WdOk a := by
 intro a ha
 rcases List.mem_or_eq_of_mem_set ha with h1 | h1
 ·exact h a h1
 ·subst h1; exact hx
theorem wdOk0 (x : Int) (h : 0 ≤ x ∧ x ≤ 2) : WdOk (x, 0, 0) := ⟨⟨by dsimp only; omega, by dsimp only; omega⟩, ⟨by dsimp only; omega, by dsimp only; omega⟩, ⟨by dsimp only; omega, by dsimp only; omega⟩⟩
theorem firstL_ok (t c b : Int) : ∀ a ∈ firstL t c b, WdOk a := by
 have h0 : ∀ n, ∀ a ∈ first0 n, WdOk a := by
  intro n
  refine set_ok (fun a ha => ?_) (wdOk0 1 (by omega)) 1
  rw [(List.mem_replicate.1 ha).2]
  exact wdOk0 0 (by omega)
 have h1 : ∀ n k, ∀ a ∈ first1 t c b n k, WdOk a := by
  intro n k
  induction k with
  | zero => exact h0 n
  | succ k ih => exact set_ok ih (wdOk0 2 (by omega)) _
 have h2 : ∀ n T k, ∀ a ∈ first2 t c b n T k, WdOk a := by
  intro n T k
  induction k with
  | zero => exact h1 n T
  | succ k ih => exact set_ok ih (wdOk0 2 (by omega)) _
 unfold firstL
 split
 ·exact h2 _ _ _
 ·simp
theorem wordsW_ok {seq st : Int} {es : List En} (hq : 1 ≤ seq ∧ seq ≤ 16777215) (hs : 0 ≤ st ∧ st ≤ 3) (hl : es.length ≤ 40) (hok : ∀ e ∈ es, EnOk e) : ∀ a ∈ wordsW seq st es, WdOk a := by
 intro a ha
 unfold wordsW at ha
 rcases List.mem_append.1 ha with h | h
 ·simp only [List.mem_cons, List.not_mem_nil, or_false] at h
  rcases h with rfl | rfl
  ·exact ⟨⟨by dsimp only; omega, by dsimp only; omega⟩, ⟨by dsimp only; omega, by dsimp only; omega⟩, ⟨by dsimp only; omega, by dsimp only; omega⟩⟩
  ·exact ⟨⟨by dsimp only; omega, by dsimp only; omega⟩, ⟨by dsimp only; omega, by dsimp only; omega⟩, ⟨by dsimp only; omega, by dsimp only; omega⟩⟩
 ·obtain ⟨e, he, h⟩ := List.mem_flatMap.1 h
  have hk := hok e he
  obtain ⟨k0, k1, k2, k3, k4, k5, k6, k7, k8, k9⟩ := hk
  unfold packW at h
  simp only [List.mem_cons, List.not_mem_nil, or_false] at h
  rcases h with rfl | rfl | rfl
  ·refine ⟨⟨k0, k1⟩, ?_, ⟨by dsimp only; omega, by dsimp only; omega⟩⟩
   dsimp only
   split <;> omega
  ·exact ⟨⟨k2, k3⟩, ⟨k4, k5⟩, ⟨by dsimp only; omega, by dsimp only; omega⟩⟩
  ·exact ⟨⟨k8, k9⟩, ⟨by dsimp only; omega, by dsimp only; omega⟩, ⟨by dsimp only; omega, by dsimp only; omega⟩⟩
open Go.RowKit
theorem Sl.cap {α : Type} {w : World} {size : Nat} {enc : α → List Value} {l : List α} {a : Option Addr} {n c : Nat} (h : Sl w size enc (.slice a n c) l) : n = l.length ∧ n ≤ c := by
 obtain ⟨a', c1, hv, hm, _⟩ := h
 simp only [Value.slice.injEq] at hv
 omega
def roomTo (L : List Wd) (p : Int) (pl : List Pt) : Nat → List Wd
 | 0 => L
 | k + 1 => match pl[k]? with
  | some x => if 0 ≤ p then (roomTo L p pl k).set (p + x.1 % 12).toNat x.2 else roomTo L p pl k
  | none => roomTo L p pl k
open Go.RowKit
set_option maxHeartbeats 1000000 in
theorem plan20_any (w : World) :
 Calls Tryz.prog 7 #[] w fun y w' => y = .returned (.agg #[.int .i64 3, .int .i64 8, .int .i64 1]) ∧ ∃ r, w' = ext w r := by
 go_enter Tryz.func7, Tryz.ntmps7
 (repeat (first | go_values | go_skip | go_guarded | go_step | go_upon | (simp only [Int.not_lt, Int.not_le] at *; go_simp) | (go_ite <;> go_prune <;> (try go_simp))))
 exact bodyPost_ret (v := .agg #[.int .i64 3, .int .i64 8, .int .i64 1]) (by simp [results, Tryz.results7, go_sem]) rfl ⟨rfl, by exact exF⟩
def few20 (sw : List Swp) : Bool := (sw.take 4).all (fun x => decide (x.2.length ≤ 6)) && decide (sw.length ≤ 3)
section
variable (a0 a1 a2 a3 a4 a5 b0 b1 b2 b3 b4 b5 : Int)
set_option maxHeartbeats 2000000 in
theorem cell20_any (sv : Value) (a : Option Addr) (n c : Nat) (hsv : sv = .slice a n c) (i : Nat) (hi : i < 6) (u v : Int) (hu : [a0, a1, a2, a3, a4, a5][i]? = some u) (hv : [b0, b1, b2, b3, b4, b5][i]? = some v) (hub : -128 ≤ u ∧ u ≤ 127) (hvb : 0 ≤ v ∧ v ≤ 255) (w : World) :
 Calls Tryz.prog 71 #[.agg #[.int .i8 a0, .int .i8 a1, .int .i8 a2, .int .i8 a3, .int .i8 a4, .int .i8 a5, .int .u8 b0, .int .u8 b1, .int .u8 b2, .int .u8 b3, .int .u8 b4, .int .u8 b5, sv], .int .i64 i] w fun y w' => y = .returned (.agg #[.int .i64 u, .int .u32 v, .int .u32 0]) ∧ ∃ r, w' = ext w r := by
 subst hsv
 have hw1 : IntKind.i64.wrap u = u := IntWalk.i64_in _ (by omega)
 have hw2 : IntKind.u32.wrap v = v := wraps_u32w v (by omega) (by omega)
 have hii : (i : Int) < 6 := by omega
 have HU := hid hu
 have HV := hid hv
 clear hu hv
 go_enter Tryz.func71, Tryz.ntmps71
 go_upto_region 1 with fail
 generalize hY : World.alloc _ _ = Y
 have HEY := hid (show Ext w Y by rw [← hY]; exact exP)
 have HB := hid (show Blk Y w.heap.size [.int .i8 a0, .int .i8 a1, .int .i8 a2, .int .i8 a3, .int .i8 a4, .int .i8 a5, .int .u8 b0, .int .u8 b1, .int .u8 b2, .int .u8 b3, .int .u8 b4, .int .u8 b5, .slice a n c] by rw [← hY]; exact bkP)
 have HR := hid (show Blk Y (w.heap.size + 1) [.int .i64 0, .int .u32 0, .int .u32 0] by rw [← hY]; exact bkP)
 have k0 := HB.out.2.2 i (.int .i8 u) (by
  match i, hi, HU.out with
  | 0, _, h => cases h; rfl
  | 1, _, h => cases h; rfl
  | 2, _, h => cases h; rfl
  | 3, _, h => cases h; rfl
  | 4, _, h => cases h; rfl
  | 5, _, h => cases h; rfl)
 have k1 := HB.out.2.2 (6 + i) (.int .u8 v) (by
  match i, hi, HV.out with
  | 0, _, h => cases h; rfl
  | 1, _, h => cases h; rfl
  | 2, _, h => cases h; rfl
  | 3, _, h => cases h; rfl
  | 4, _, h => cases h; rfl
  | 5, _, h => cases h; rfl)
 obtain ⟨r0, r1, r2⟩ := HR.out.three
 have f0 := HR.out.2.1 0
 have f1 := HR.out.2.1 1
 have f2 := HR.out.2.1 2
 have z0 := HB.out.1
 have z1 := HR.out.1
 generalize hnr : w.heap.size + 1 = nr at *
 have hne : w.heap.size ≠ nr := by omega
 clear hY
 refine wp_region_held_drew (S := fun w' => w'.cell? ⟨w.heap.size, i, none⟩ = some (.int .i8 u) ∧ w'.cell? ⟨w.heap.size, 6 + i, none⟩ = some (.int .u8 v)) (by kernel_rfl) (by exact ⟨(show Grn nr Y _ from by exact gnP).cell hne k0, (show Grn nr Y _ from by exact gnP).cell hne k1⟩) (fun hHeld => ?_)
 refine tkm 0 (v := ?_) rfl ?_ ?_
 rotate_left 1
 ·intro w hSw
  try dsimp only at hSw
  go_simp
  try with_reducible rfl
 (try simp only [Act.put, pA, pB, pC])
 refine tkm 1 (v := ?_) rfl ?_ ?_
 rotate_left 1
 ·intro w hSw
  try dsimp only at hSw
  go_simp
  try with_reducible rfl
 (try simp only [Act.put, pA, pB, pC])
 refine tkm 2 (v := ?_) rfl ?_ ?_
 rotate_left 1
 ·intro w hSw
  try dsimp only at hSw
  go_simp
  try with_reducible rfl
 (try simp only [Act.put, pA, pB, pC])
 refine tkm 3 (v := ?_) rfl ?_ ?_
 rotate_left 1
 ·intro w hSw
  try dsimp only at hSw
  go_simp
  try with_reducible rfl
 (try simp only [Act.put, pA, pB, pC])
 refine tkm 4 (v := ?_) rfl ?_ ?_
 rotate_left 1
 ·intro w hSw
  try dsimp only at hSw
  go_simp
  try with_reducible rfl
 (try simp only [Act.put, pA, pB, pC])
 refine tkm 5 (v := ?_) rfl ?_ ?_
 rotate_left 1
 ·intro w hSw
  try dsimp only at hSw
  go_simp
  try with_reducible rfl
 (try simp only [Act.put, pA, pB, pC])
 refine tkm 6 (v := ?_) rfl ?_ ?_
 rotate_left 1
 ·intro w hSw
  try dsimp only at hSw
  go_simp
  try with_reducible rfl
 (try simp only [Act.put, pA, pB, pC])
 refine tkm 7 (v := ?_) rfl ?_ ?_
 rotate_left 1
 ·intro w hSw
  try dsimp only at hSw
  go_simp
  try with_reducible rfl
 (try simp only [Act.put, pA, pB, pC])
 refine tkm 8 (v := ?_) rfl ?_ ?_
 rotate_left 1
 ·intro w hSw
  try dsimp only at hSw
  go_simp
  try with_reducible rfl
 (try simp only [Act.put, pA, pB, pC])
 refine tkm 9 (v := ?_) rfl ?_ ?_
 rotate_left 1
 ·intro w hSw
  try dsimp only at hSw
  go_simp
  try with_reducible rfl
 (try simp only [Act.put, pA, pB, pC])
 refine tkm 10 (v := ?_) rfl ?_ ?_
 rotate_left 1
 ·intro w hSw
  try dsimp only at hSw
  go_simp
  try with_reducible rfl
 (try simp only [Act.put, pA, pB, pC])
 refine take_only 11 (oi := ⟨_, _, _, _, _, _⟩) (by kernel_rfl) rfl (fun K hK => ?_)
 go_simp
 have hOld := hHeld
 clear hHeld
 refine hK.out _ _ (by exact ⟨(show Grn nr Y _ from by exact gnP).cell hne k0, (show Grn nr Y _ from by exact gnP).cell hne k1⟩) (fun hHeld => ?_)
 clear hOld hK K
 (try simp only [Act.put, pA, pB, pC])
 refine wpAnyH_done (by kernel_rfl) ?_ _
 clear hHeld
 generalize hX : World.drew _ = X
 have HRX := hid (show Blk X nr [.int .i64 u, .int .u32 v, .int .u32 0] by rw [← hX]; exact Blk.drew (((HR.out.set 0 (by simp) _).set 1 (by simp) _).set 2 (by simp) _))
 have HEX := hid (show Ext w X by rw [← hX]; exact (((HEY.out.setCell (by dsimp only; omega) _).setCell (by dsimp only; omega) _).setCell (by dsimp only; omega) _).drew)
 obtain ⟨x0, x1, x2⟩ := HRX.out.three
 have x4 := HRX.out.1
 clear hX r0 r1 r2 f0 f1 f2
 (repeat (first | go_values | go_skip | go_guarded | go_step | go_upon | (simp only [Int.not_lt, Int.not_le] at *; go_simp) | (go_ite <;> go_prune <;> (try go_simp))))
 exact bodyPost_ret (v := .agg #[.int .i64 u, .int .u32 v, .int .u32 0]) (by simp [results, Tryz.results71, go_sem, x0, x1, x2, x4]) rfl ⟨rfl, by first | exact HEX.out | exact HEX.out.drew⟩
end
set_option maxHeartbeats 1000000 in
theorem ref20_any (q : Nat) (hq : q < 72) (w : World) :
 Calls Tryz.prog 54 #[.int .i64 ((q : Int) + 1)] w fun y w' => y = .returned (.int .u32 (((q : Int) + 1) * 16777216 + 1)) ∧ ∃ r, w' = ext w r := by
 have HR := hid (show refN ((q : Int) + 1) 1 = (((q : Int) + 1) * 16777216 + 1, 0) by unfold refN; rw [if_pos (by omega)])
 go_enter Tryz.func54, Tryz.ntmps54
 go_wp2_with fail
 refine (ref_any ((q : Int) + 1) 1 _).mono ?_
 rintro e w' ⟨rfl, r1, rfl⟩
 rw [HR.out]
 go_wp2_with fail
 go_ret
 exact ⟨rfl, by exact exP⟩
theorem cell31 (i : Nat) (hi : i < 8) : atN 3 8 1 3 i 0 = 56 + i := by
 have h : i = 0 ∨ i = 1 ∨ i = 2 ∨ i = 3 ∨ i = 4 ∨ i = 5 ∨ i = 6 ∨ i = 7 := by omega
 rcases h with rfl | rfl | rfl | rfl | rfl | rfl | rfl | rfl
 ·exact (show atN 3 8 1 3 0 0 = 56 by kernel_rfl)
 ·exact (show atN 3 8 1 3 1 0 = 57 by kernel_rfl)
 ·exact (show atN 3 8 1 3 2 0 = 58 by kernel_rfl)
 ·exact (show atN 3 8 1 3 3 0 = 59 by kernel_rfl)
 ·exact (show atN 3 8 1 3 4 0 = 60 by kernel_rfl)
 ·exact (show atN 3 8 1 3 5 0 = 61 by kernel_rfl)
 ·exact (show atN 3 8 1 3 6 0 = 62 by kernel_rfl)
 ·exact (show atN 3 8 1 3 7 0 = 63 by kernel_rfl)
end Go.Proofs.YtiacdohaiidehaaGreatDoor
