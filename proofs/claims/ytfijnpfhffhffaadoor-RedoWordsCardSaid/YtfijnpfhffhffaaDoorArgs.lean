/- Arguments opened: entries, arrays of words, of small numbers, descriptors. -/
import Derived.Test.YtfijnpfhffhffaaDoorOpen
import Derived.Laws.IdiomArrays
namespace Go.Proofs.YtfijnpfhffhffaaDoor
set_option linter.unusedSimpArgs false
set_option linter.unusedVariables false
open Go.ChangeShapes Go.WideShapes Go.RowKit Go.Deep Go.Joins

section
variable {H : Type} {enc : TypeId × Value → H} {P : Program} {w : World} {base : Nat} {spare : Nat → Bool} {held : Bool}
theorem open_flat_struct {r : Reach} {b0 : Nat} {t : TypeId} {fs : Array Field} {v : Value} {d : DataW H} {p : List MemPlace} (hs : P.underlying t = some (.struct fs)) (hv : Value.okWide P w r b0 t v) (h : DataW.Trod enc P w base spare held t v d p) :
    ∃ cs n x, v = .agg cs ∧ DataW.trod enc P w base spare held n t cs.toList = some x := by
  simp only [Value.okWide, hs] at hv
  obtain ⟨cs, rfl, _, _⟩ := hv
  obtain ⟨fuel, hf⟩ := h
  exact ⟨cs, fuel, _, rfl, by simpa [Value.cells] using hf⟩
theorem open_flat_array {r : Reach} {b0 : Nat} {t e : TypeId} {k : Nat} {v : Value} {d : DataW H} {p : List MemPlace} (hs : P.underlying t = some (.array k e)) (hv : Value.okWide P w r b0 t v) (h : DataW.Trod enc P w base spare held t v d p) :
    ∃ cs n x, v = .agg cs ∧ DataW.trod enc P w base spare held n t cs.toList = some x := by
  simp only [Value.okWide, hs] at hv
  obtain ⟨cs, rfl, _, _⟩ := hv
  obtain ⟨fuel, hf⟩ := h
  exact ⟨cs, fuel, _, rfl, by simpa [Value.cells] using hf⟩
theorem agg_of_list {cs : Array Value} {l : List Value} (h : cs.toList = l) : Value.agg cs = .agg l.toArray := by rw [← h]
end

section
variable {H : Type} {enc : TypeId × Value → H} {w : World} {base : Nat} {spare : Nat → Bool} {held : Bool}
set_option maxRecDepth 100000 in
theorem open_entry {r : Reach} {b0 : Nat} {v : Value} {d : DataW H} {p : List MemPlace} (hv : Value.okWide Tryd.prog w r b0 75 v) (h : DataW.Trod enc Tryd.prog w base spare held 75 v d p) :
    ∃ e : En, EnOk e ∧ v = .agg #[.int .i64 e.loc, .int .i64 e.val, .int .u32 e.ver, .int .u32 e.ref, .int .i64 e.new, .bool e.wr] := by
  obtain ⟨cs, n, x, rfl, hx⟩ := open_flat_struct Tryd.underlying75 hv h
  obtain ⟨e, he, hc⟩ := entry_of_trod _ _ _ hx
  exact ⟨e, he, agg_of_list hc⟩
set_option maxRecDepth 100000 in
theorem open_words3 {r : Reach} {b0 : Nat} {v : Value} {d : DataW H} {p : List MemPlace} (hv : Value.okWide Tryd.prog w r b0 103 v) (h : DataW.Trod enc Tryd.prog w base spare held 103 v d p) :
    ∃ x y z : Wd, WdOk x ∧ WdOk y ∧ WdOk z ∧ v = .agg #[.int .i64 x.1, .int .u32 x.2.1, .int .u32 x.2.2, .int .i64 y.1, .int .u32 y.2.1, .int .u32 y.2.2, .int .i64 z.1, .int .u32 z.2.1, .int .u32 z.2.2] := by
  obtain ⟨cs, n, x, rfl, hx⟩ := open_flat_array Tryd.underlying103 hv h
  obtain ⟨xs, m, -, -, hl, hxl, hi⟩ := DataW.trod_array Tryd.underlying103 hx
  have hl9 : cs.toList.length = 9 := hl
  have hC : Tryd.prog.cellsOf 60 = 3 := by kernel_rfl
  rw [hC] at hi
  have h0 := hi 0 (by omega)
  have h1 := hi 1 (by omega)
  have h2 := hi 2 (by omega)
  rw [List.getElem?_eq_getElem (by omega)] at h0 h1 h2
  obtain ⟨a, ha, ea⟩ := word_of_trod _ _ _ h0
  obtain ⟨b, hb, eb⟩ := word_of_trod _ _ _ h1
  obtain ⟨c, hc, ec⟩ := word_of_trod _ _ _ h2
  refine ⟨a, b, c, ha, hb, hc, ?_⟩
  have e9 : cs.toList = wdE a ++ (wdE b ++ wdE c) := by
    rw [← ea, ← eb, ← ec]
    generalize cs.toList = L at hl9
    match L, hl9 with
    | [c0, c1, c2, c3, c4, c5, c6, c7, c8], _ => rfl
  exact agg_of_list e9
set_option maxRecDepth 100000 in
theorem open_u8s {r : Reach} {b0 : Nat} {v : Value} {d : DataW H} {p : List MemPlace} (hv : Value.okWide Tryd.prog w r b0 29 v) (h : DataW.Trod enc Tryd.prog w base spare held 29 v d p) :
    ∃ x y z : Int, (0 ≤ x ∧ x ≤ 255) ∧ (0 ≤ y ∧ y ≤ 255) ∧ (0 ≤ z ∧ z ≤ 255) ∧ v = .agg #[.int .u8 x, .int .u8 y, .int .u8 z] := by
  obtain ⟨cs, n, x, rfl, hx⟩ := open_flat_array Tryd.underlying29 hv h
  obtain ⟨xs, m, -, -, hl, hxl, hi⟩ := DataW.trod_array Tryd.underlying29 hx
  have hl3 : cs.toList.length = 3 := hl
  have hC : Tryd.prog.cellsOf 5 = 1 := by kernel_rfl
  rw [hC] at hi
  have h0 := hi 0 (by omega)
  have h1 := hi 1 (by omega)
  have h2 := hi 2 (by omega)
  rw [List.getElem?_eq_getElem (by omega)] at h0 h1 h2
  have hag := agg_of_list (cs := cs) rfl
  generalize cs.toList = L at hl3 h0 h1 h2 hag
  match L, hl3 with
  | [c0, c1, c2], _ =>
    obtain ⟨a0, e0, -, w0⟩ := DataW.trod_int (k := .u8) Tryd.underlying5 h0
    obtain ⟨a1, e1, -, w1⟩ := DataW.trod_int (k := .u8) Tryd.underlying5 h1
    obtain ⟨a2, e2, -, w2⟩ := DataW.trod_int (k := .u8) Tryd.underlying5 h2
    cases e0
    cases e1
    cases e2
    exact ⟨a0, a1, a2, wf_u8 w0, wf_u8 w1, wf_u8 w2, hag⟩
set_option maxRecDepth 100000 in
theorem open_desc {r : Reach} {b0 : Nat} {v : Value} {d : DataW H} {p : List MemPlace} (hv : Value.okWide Tryd.prog w r b0 78 v) (h : DataW.Trod enc Tryd.prog w base spare held 78 v d p) :
    ∃ (who seq st : Int) (u : Value) (es : List En), (-9223372036854775808 ≤ who ∧ who ≤ 9223372036854775807) ∧ (-9223372036854775808 ≤ seq ∧ seq ≤ 9223372036854775807) ∧ (-9223372036854775808 ≤ st ∧ st ≤ 9223372036854775807) ∧ Es w u es ∧ (∀ e ∈ es, EnOk e) ∧ v = .agg #[.int .i64 who, .int .i64 seq, .int .i64 st, u] := by
  obtain ⟨v0, v1, v2, v3, y0, y1, y2, y3, n, rfl, -, -, h0, h1, h2, h3⟩ := open_agg4 Tryd.underlying78 (by kernel_rfl) (by kernel_rfl) hv h
  obtain ⟨a0, e0, -, w0⟩ := DataW.trod_int (k := .i64) Tryd.underlying3 h0
  obtain ⟨a1, e1, -, w1⟩ := DataW.trod_int (k := .i64) Tryd.underlying3 h1
  obtain ⟨a2, e2, -, w2⟩ := DataW.trod_int (k := .i64) Tryd.underlying3 h2
  obtain ⟨u, l, e3, hs, hk⟩ := sl_of_trod (en := enE) Tryd.underlying76 (by kernel_rfl) (by omega) enE_len entry_of_trod h3
  cases e0
  cases e1
  cases e2
  cases e3
  exact ⟨a0, a1, a2, v3, l, wf_i64 w0, wf_i64 w1, wf_i64 w2, hs, hk, rfl⟩

/-- Plain: a word to be put: where, and the word. -/
abbrev Pt := Int × Int × Int × Int
def ptE (x : Pt) : List Value := [.int .u16 x.1, .int .i64 x.2.1, .int .u32 x.2.2.1, .int .u32 x.2.2.2]
theorem ptE_len (x : Pt) : (ptE x).length = 4 := rfl
def PtOk (x : Pt) : Prop := (0 ≤ x.1 ∧ x.1 ≤ 65535) ∧ WdOk x.2
theorem wf_u16 {x : Int} (h : (Lit.int .u16 x).wf = true) : 0 ≤ x ∧ x ≤ 65535 := by
  have h1 : IntKind.u16.min = 0 := rfl
  have h2 : IntKind.u16.max = 65535 := rfl
  simp only [Lit.wf, Bool.and_eq_true, decide_eq_true_eq] at h
  omega
end

end Go.Proofs.YtfijnpfhffhffaaDoor
