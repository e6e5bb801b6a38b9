/- Arguments opened: a case of law 20 and of law 25. -/
import Derived.Test.YtfijnpfhffhffaaDoorArgs
import Derived.Test.YtfijnpfhffhffaaDoorLayFrame
namespace Go.Proofs.YtfijnpfhffhffaaDoor
set_option linter.unusedSimpArgs false
set_option linter.unusedVariables false
open Go.ChangeShapes Go.WideShapes Go.RowKit Go.Deep Go.Joins

section
variable {H : Type} {enc : TypeId × Value → H} {P : Program} {w : World} {base : Nat} {spare : Nat → Bool} {held : Bool}
theorem trod_struct5 {t : TypeId} {f0 f1 f2 f3 f4 : Field} {fuel : Nat} {cs : List Value} {x : DataW H × List MemPlace} (ht : P.underlying t = some (.struct #[f0, f1, f2, f3, f4])) (h : DataW.trod enc P w base spare held fuel t cs = some x) :
    ∃ y0 y1 y2 y3 y4 n, cs.length = P.cellsOf t ∧ DataW.trod enc P w base spare held n f0.type ((cs.drop f0.offset).take (P.cellsOf f0.type)) = some y0 ∧
      DataW.trod enc P w base spare held n f1.type ((cs.drop f1.offset).take (P.cellsOf f1.type)) = some y1 ∧ DataW.trod enc P w base spare held n f2.type ((cs.drop f2.offset).take (P.cellsOf f2.type)) = some y2 ∧
      DataW.trod enc P w base spare held n f3.type ((cs.drop f3.offset).take (P.cellsOf f3.type)) = some y3 ∧ DataW.trod enc P w base spare held n f4.type ((cs.drop f4.offset).take (P.cellsOf f4.type)) = some y4 := by
  obtain ⟨xs, n, _, rfl, hl, hlen, hf⟩ := DataW.trod_struct ht h
  match xs, hlen with
  | [y0, y1, y2, y3, y4], _ => exact ⟨y0, y1, y2, y3, y4, n, hl, by simpa using hf 0 f0 rfl, by simpa using hf 1 f1 rfl, by simpa using hf 2 f2 rfl, by simpa using hf 3 f3 rfl, by simpa using hf 4 f4 rfl⟩
theorem trod_struct6 {t : TypeId} {f0 f1 f2 f3 f4 f5 : Field} {fuel : Nat} {cs : List Value} {x : DataW H × List MemPlace} (ht : P.underlying t = some (.struct #[f0, f1, f2, f3, f4, f5])) (h : DataW.trod enc P w base spare held fuel t cs = some x) :
    ∃ y0 y1 y2 y3 y4 y5 n, cs.length = P.cellsOf t ∧ DataW.trod enc P w base spare held n f0.type ((cs.drop f0.offset).take (P.cellsOf f0.type)) = some y0 ∧
      DataW.trod enc P w base spare held n f1.type ((cs.drop f1.offset).take (P.cellsOf f1.type)) = some y1 ∧ DataW.trod enc P w base spare held n f2.type ((cs.drop f2.offset).take (P.cellsOf f2.type)) = some y2 ∧
      DataW.trod enc P w base spare held n f3.type ((cs.drop f3.offset).take (P.cellsOf f3.type)) = some y3 ∧ DataW.trod enc P w base spare held n f4.type ((cs.drop f4.offset).take (P.cellsOf f4.type)) = some y4 ∧
      DataW.trod enc P w base spare held n f5.type ((cs.drop f5.offset).take (P.cellsOf f5.type)) = some y5 := by
  obtain ⟨xs, n, _, rfl, hl, hlen, hf⟩ := DataW.trod_struct ht h
  match xs, hlen with
  | [y0, y1, y2, y3, y4, y5], _ => exact ⟨y0, y1, y2, y3, y4, y5, n, hl, by simpa using hf 0 f0 rfl, by simpa using hf 1 f1 rfl, by simpa using hf 2 f2 rfl, by simpa using hf 3 f3 rfl, by simpa using hf 4 f4 rfl, by simpa using hf 5 f5 rfl⟩
/-- An array of numbers of one kind. -/
theorem ints_of_trod {t e : TypeId} {k : IntKind} {n fuel : Nat} {cs : List Value} {x : DataW H × List MemPlace} (ht : P.underlying t = some (.array n e)) (he : P.underlying e = some (.int k)) (hC : P.cellsOf e = 1) (hCt : P.cellsOf t = n)
    (h : DataW.trod enc P w base spare held fuel t cs = some x) : ∃ l : List Int, l.length = n ∧ cs = l.map (Value.int k) ∧ ∀ a ∈ l, (Lit.int k a).wf = true := by
  obtain ⟨xs, m, -, -, hl, hxl, hi⟩ := DataW.trod_array ht h
  rw [hC] at hi
  rw [hCt] at hl
  obtain ⟨l, hll, hlp⟩ := exists_list (p := fun i a => cs[i]? = some (Value.int k a) ∧ (Lit.int k a).wf = true) n (fun i hi' => by
    have h1 := hi i hi'
    rw [List.getElem?_eq_getElem (show i < xs.length by omega)] at h1
    obtain ⟨a, ea, -, wa⟩ := DataW.trod_int he h1
    refine ⟨a, ?_, wa⟩
    have h2 : ((cs.drop (i * 1)).take 1)[0]? = some (Value.int k a) := by rw [ea]; rfl
    rw [List.getElem?_take, if_pos (by omega), List.getElem?_drop] at h2
    simpa using h2)
  refine ⟨l, hll, ?_, fun a ha => ?_⟩
  · apply List.ext_getElem?
    intro i
    by_cases hin : i < n
    · obtain ⟨a, ha⟩ : ∃ a, l[i]? = some a := ⟨_, List.getElem?_eq_getElem (by omega)⟩
      rw [(hlp i a ha).1, List.getElem?_map, ha]; rfl
    · rw [List.getElem?_eq_none (by omega), List.getElem?_eq_none (by simp; omega)]
  · obtain ⟨i, hi'⟩ := List.mem_iff_getElem?.1 ha
    exact (hlp i a hi').2
/-- An array of bools. -/
theorem bools_of_trod {t e : TypeId} {n fuel : Nat} {cs : List Value} {x : DataW H × List MemPlace} (ht : P.underlying t = some (.array n e)) (he : P.underlying e = some .bool) (hC : P.cellsOf e = 1) (hCt : P.cellsOf t = n)
    (h : DataW.trod enc P w base spare held fuel t cs = some x) : ∃ l : List Bool, l.length = n ∧ cs = l.map Value.bool := by
  obtain ⟨xs, m, -, -, hl, hxl, hi⟩ := DataW.trod_array ht h
  rw [hC] at hi
  rw [hCt] at hl
  obtain ⟨l, hll, hlp⟩ := exists_list (p := fun i a => cs[i]? = some (Value.bool a)) n (fun i hi' => by
    have h1 := hi i hi'
    rw [List.getElem?_eq_getElem (show i < xs.length by omega)] at h1
    obtain ⟨a, ea, -⟩ := DataW.trod_bool he h1
    refine ⟨a, ?_⟩
    have h2 : ((cs.drop (i * 1)).take 1)[0]? = some (Value.bool a) := by rw [ea]; rfl
    rw [List.getElem?_take, if_pos (by omega), List.getElem?_drop] at h2
    simpa using h2)
  refine ⟨l, hll, ?_⟩
  apply List.ext_getElem?
  intro i
  by_cases hin : i < n
  · obtain ⟨a, ha⟩ : ∃ a, l[i]? = some a := ⟨_, List.getElem?_eq_getElem (by omega)⟩
    rw [hlp i a ha, List.getElem?_map, ha]; rfl
  · rw [List.getElem?_eq_none (by omega), List.getElem?_eq_none (by simp; omega)]
end

/-- Plain: an item: its cell, off, write, the new value, held. -/
abbrev It := Int × Bool × Bool × Int × Bool
def itE (x : It) : List Value := [.int .u8 x.1, .bool x.2.1, .bool x.2.2.1, .int .i8 x.2.2.2.1, .bool x.2.2.2.2]
theorem itE_len (x : It) : (itE x).length = 5 := rfl
def ItOk (x : It) : Prop := (0 ≤ x.1 ∧ x.1 ≤ 255) ∧ (-128 ≤ x.2.2.2.1 ∧ x.2.2.2.1 ≤ 127)
theorem wf_i8 {x : Int} (h : (Lit.int .i8 x).wf = true) : -128 ≤ x ∧ x ≤ 127 := by
  have h1 : IntKind.i8.min = -128 := rfl
  have h2 : IntKind.i8.max = 127 := rfl
  simp only [Lit.wf, Bool.and_eq_true, decide_eq_true_eq] at h
  omega
/-- Plain: an operation: its slice and the items that it reads as. -/
abbrev Swp := Value × List It
def swE (x : Swp) : List Value := [x.1]
theorem swE_len (x : Swp) : (swE x).length = 1 := rfl
def SwOk (w : World) (x : Swp) : Prop := Sl w 5 itE x.1 x.2 ∧ ∀ a ∈ x.2, ItOk a
theorem SwOk.of {w w' : World} {x : Swp} (h : SwOk w x) (he : Ext w w') : SwOk w' x := ⟨h.1.of itE_len he, h.2⟩
section
variable {H : Type} {enc : TypeId × Value → H} {w : World} {base : Nat} {spare : Nat → Bool} {held : Bool}
set_option maxRecDepth 100000 in
theorem item_of_trod (n : Nat) (cs : List Value) (x : DataW H × List MemPlace) (h : DataW.trod enc Tryd.prog w base spare held n 126 cs = some x) : ∃ a, ItOk a ∧ cs = itE a := by
  obtain ⟨y0, y1, y2, y3, y4, n', hl, h0, h1, h2, h3, h4⟩ := trod_struct5 Tryd.underlying126 h
  have hl5 : cs.length = 5 := hl
  match cs, hl5 with
  | [c0, c1, c2, c3, c4], _ =>
    obtain ⟨a0, e0, -, w0⟩ := DataW.trod_int (k := .u8) Tryd.underlying5 h0
    obtain ⟨a1, e1, -⟩ := DataW.trod_bool Tryd.underlying4 h1
    obtain ⟨a2, e2, -⟩ := DataW.trod_bool Tryd.underlying4 h2
    obtain ⟨a3, e3, -, w3⟩ := DataW.trod_int (k := .i8) Tryd.underlying22 h3
    obtain ⟨a4, e4, -⟩ := DataW.trod_bool Tryd.underlying4 h4
    cases e0
    cases e1
    cases e2
    cases e3
    cases e4
    exact ⟨(a0, a1, a2, a3, a4), ⟨wf_u8 w0, wf_i8 w3⟩, rfl⟩
set_option maxRecDepth 100000 in
theorem swap_of_trod (n : Nat) (cs : List Value) (x : DataW H × List MemPlace) (h : DataW.trod enc Tryd.prog w base spare held n 105 cs = some x) : ∃ a : Swp, SwOk w a ∧ cs = swE a := by
  obtain ⟨v', l, hv', hs, hk⟩ := sl_of_trod (en := itE) Tryd.underlying105 (by kernel_rfl) (by omega) itE_len item_of_trod h
  exact ⟨(v', l), ⟨hs, hk⟩, hv'⟩
/-- Plain: the cells of a case of law 20. -/
def c20E (va vb : List Int) (sv : Value) : List Value := va.map (Value.int .i8) ++ (vb.map (Value.int .u8) ++ [sv])
set_option maxRecDepth 100000 in
theorem case20_of_trod (n : Nat) (cs : List Value) (x : DataW H × List MemPlace) (h : DataW.trod enc Tryd.prog w base spare held n 27 cs = some x) :
    ∃ (va vb : List Int) (sv : Value) (sw : List Swp), cs = c20E va vb sv ∧ va.length = 6 ∧ vb.length = 6 ∧ (∀ a ∈ va, -128 ≤ a ∧ a ≤ 127) ∧ (∀ a ∈ vb, 0 ≤ a ∧ a ≤ 255) ∧ Sl w 1 swE sv sw ∧ ∀ a ∈ sw, SwOk w a := by
  obtain ⟨y0, y1, y2, n', -, hl, h0, h1, h2⟩ := trod_struct3 Tryd.underlying27 h
  have hl13 : cs.length = 13 := hl
  obtain ⟨va, la, ea, wa⟩ := ints_of_trod (k := .i8) Tryd.underlying23 Tryd.underlying22 (by kernel_rfl) (by kernel_rfl) h0
  obtain ⟨vb, lb, eb, wb⟩ := ints_of_trod (k := .u8) Tryd.underlying24 Tryd.underlying5 (by kernel_rfl) (by kernel_rfl) h1
  obtain ⟨sv, sw, es, hs, hk⟩ := sl_of_trod (en := swE) Tryd.underlying25 (by kernel_rfl) (by omega) swE_len swap_of_trod h2
  refine ⟨va, vb, sv, sw, ?_, la, lb, fun a ha => wf_i8 (wa a ha), fun a ha => wf_u8 (wb a ha), hs, hk⟩
  unfold c20E
  rw [← ea, ← eb, ← es]
  match cs, hl13 with
  | [c0, c1, c2, c3, c4, c5, c6, c7, c8, c9, c10, c11, c12], _ => rfl
set_option maxRecDepth 100000 in
theorem u16_of_trod (n : Nat) (cs : List Value) (x : DataW H × List MemPlace) (h : DataW.trod enc Tryd.prog w base spare held n 34 cs = some x) : ∃ a : Int, (0 ≤ a ∧ a ≤ 65535) ∧ cs = [.int .u16 a] := by
  obtain ⟨a, e, -, w0⟩ := DataW.trod_int (k := .u16) Tryd.underlying34 h
  exact ⟨a, wf_u16 w0, e⟩
/-- Plain: the cells of a case of law 25. -/
def c25E (va vb : List Int) (sv : Value) (ob : List Bool) (st ow : List Int) (av nv : Value) : List Value := c20E va vb sv ++ (ob.map Value.bool ++ (st.map (Value.int .u8) ++ (ow.map (Value.int .i8) ++ [av, nv])))
def u16E (x : Int) : List Value := [.int .u16 x]
theorem u16E_len (x : Int) : (u16E x).length = 1 := rfl
set_option maxRecDepth 100000 in
theorem open_case25 {r : Reach} {b0 : Nat} {v : Value} {d : DataW H} {p : List MemPlace} (hv : Value.okWide Tryd.prog w r b0 33 v) (h : DataW.Trod enc Tryd.prog w base spare held 33 v d p) :
    ∃ (va vb : List Int) (sv : Value) (sw : List Swp) (ob : List Bool) (st ow : List Int) (av nv : Value) (la : List Int) (ln : List Wd), v = .agg (c25E va vb sv ob st ow av nv).toArray ∧ va.length = 6 ∧ vb.length = 6 ∧ (∀ a ∈ va, -128 ≤ a ∧ a ≤ 127) ∧ (∀ a ∈ vb, 0 ≤ a ∧ a ≤ 255) ∧ Sl w 1 swE sv sw ∧ (∀ a ∈ sw, SwOk w a) ∧
      ob.length = 3 ∧ st.length = 3 ∧ ow.length = 6 ∧ (∀ a ∈ st, 0 ≤ a ∧ a ≤ 255) ∧ (∀ a ∈ ow, -128 ≤ a ∧ a ≤ 127) ∧ Sl w 1 u16E av la ∧ (∀ a ∈ la, 0 ≤ a ∧ a ≤ 65535) ∧ Sl w 3 wdE nv ln ∧ ∀ a ∈ ln, WdOk a := by
  obtain ⟨cs, n, x, rfl, hx⟩ := open_flat_struct Tryd.underlying33 hv h
  obtain ⟨y0, y1, y2, y3, y4, y5, n', hl, h0, h1, h2, h3, h4, h5⟩ := trod_struct6 Tryd.underlying33 hx
  have hl27 : cs.toList.length = 27 := hl
  obtain ⟨va, vb, sv, sw, ec, hva, hvb, oa, ob', hs, hk⟩ := case20_of_trod _ _ _ h0
  obtain ⟨ob, lo, eo⟩ := bools_of_trod Tryd.underlying28 Tryd.underlying4 (by kernel_rfl) (by kernel_rfl) h1
  obtain ⟨st, ls, es, ws⟩ := ints_of_trod (k := .u8) Tryd.underlying29 Tryd.underlying5 (by kernel_rfl) (by kernel_rfl) h2
  obtain ⟨ow, lw, ew, ww⟩ := ints_of_trod (k := .i8) Tryd.underlying23 Tryd.underlying22 (by kernel_rfl) (by kernel_rfl) h3
  obtain ⟨av, la, ea, sa, ka⟩ := sl_of_trod (en := u16E) Tryd.underlying30 (by kernel_rfl) (by omega) u16E_len u16_of_trod h4
  obtain ⟨nv, ln, en', sn, kn⟩ := sl_of_trod (en := wdE) Tryd.underlying31 (by kernel_rfl) (by omega) wdE_len word_of_trod h5
  refine ⟨va, vb, sv, sw, ob, st, ow, av, nv, la, ln, agg_of_list ?_, hva, hvb, oa, ob', hs, hk, lo, ls, lw, fun a ha => wf_u8 (ws a ha), fun a ha => wf_i8 (ww a ha), sa, ka, sn, kn⟩
  unfold c25E
  rw [← ec, ← eo, ← es, ← ew]
  have e2 : [av, nv] = [av] ++ [nv] := rfl
  rw [e2, ← ea, ← en']
  generalize cs.toList = L at hl27
  match L, hl27 with
  | [c0, c1, c2, c3, c4, c5, c6, c7, c8, c9, c10, c11, c12, c13, c14, c15, c16, c17, c18, c19, c20, c21, c22, c23, c24, c25, c26], _ => rfl
end

end Go.Proofs.YtfijnpfhffhffaaDoor
