/- Arguments opened: an operation of law 24. -/
import Derived.Test.YtlijgheghodfeaaDoorArgs
import Derived.Test.YtlijgheghodfeaaDoorLayFrame
namespace Go.Proofs.YtlijgheghodfeaaDoor
set_option linter.unusedSimpArgs false
set_option linter.unusedVariables false
open Go.ChangeShapes Go.WideShapes Go.RowKit Go.Deep Go.Joins

theorem wf_i16 {x : Int} (h : (Lit.int .i16 x).wf = true) : -32768 ≤ x ∧ x ≤ 32767 := by
  have h1 : IntKind.i16.min = -32768 := rfl
  have h2 : IntKind.i16.max = 32767 := rfl
  simp only [Lit.wf, Bool.and_eq_true, decide_eq_true_eq] at h
  omega
/-- Plain: the numbers of an operation (number, value, error) fit their kinds. -/
def OpOk (x : Int × Int × Int) : Prop := (-9223372036854775808 ≤ x.1 ∧ x.1 ≤ 9223372036854775807) ∧ (-9223372036854775808 ≤ x.2.1 ∧ x.2.1 ≤ 9223372036854775807) ∧ (-32768 ≤ x.2.2 ∧ x.2.2 ≤ 32767)
def opE (x : Int × Int × Int) : List Value := [.int .i64 x.1, .int .i64 x.2.1, .int .i16 x.2.2]
theorem opE_len (x : Int × Int × Int) : (opE x).length = 3 := rfl
section
variable {H : Type} {enc : TypeId × Value → H} {w : World} {base : Nat} {spare : Nat → Bool} {held : Bool}
set_option maxRecDepth 100000 in
theorem op_of_trod (n : Nat) (cs : List Value) (x : DataW H × List MemPlace) (h : DataW.trod enc Tryd.prog w base spare held n 25 cs = some x) : ∃ a, OpOk a ∧ cs = opE a := by
  obtain ⟨y0, y1, y2, n', -, hl, h0, h1, h2⟩ := trod_struct3 Tryd.underlying25 h
  have hl3 : cs.length = 3 := hl
  match cs, hl3 with
  | [c0, c1, c2], _ =>
    obtain ⟨a0, e0, -, w0⟩ := DataW.trod_int (k := .i64) Tryd.underlying2 h0
    obtain ⟨a1, e1, -, w1⟩ := DataW.trod_int (k := .i64) Tryd.underlying2 h1
    obtain ⟨a2, e2, -, w2⟩ := DataW.trod_int (k := .i16) Tryd.underlying23 h2
    cases e0
    cases e1
    cases e2
    exact ⟨(a0, a1, a2), ⟨wf_i64 w0, wf_i64 w1, wf_i16 w2⟩, rfl⟩
set_option maxRecDepth 100000 in
theorem open_op {r : Reach} {b0 : Nat} {v : Value} {d : DataW H} {p : List MemPlace} (hv : Value.okWide Tryd.prog w r b0 25 v) (h : DataW.Trod enc Tryd.prog w base spare held 25 v d p) :
    ∃ x : Int × Int × Int, OpOk x ∧ v = .agg #[.int .i64 x.1, .int .i64 x.2.1, .int .i16 x.2.2] := by
  obtain ⟨cs, n, x, rfl, hx⟩ := open_flat_struct Tryd.underlying25 hv h
  obtain ⟨e, he, hc⟩ := op_of_trod _ _ _ hx
  exact ⟨e, he, agg_of_list hc⟩
set_option maxRecDepth 100000 in
theorem open_ops {r : Reach} {b0 : Nat} {v : Value} {d : DataW H} {p : List MemPlace} (hv : Value.okWide Tryd.prog w r b0 63 v) (h : DataW.Trod enc Tryd.prog w base spare held 63 v d p) : ∃ l, Sl w 3 opE v l ∧ ∀ a ∈ l, OpOk a := by
  obtain ⟨a, n, c, rfl⟩ := okWide_slice Tryd.underlying63 hv
  obtain ⟨fuel, hf⟩ := h
  obtain ⟨v', l, hv', hs, hk⟩ := sl_of_trod (en := opE) Tryd.underlying63 (by kernel_rfl) (by omega) opE_len op_of_trod hf
  cases hv'
  exact ⟨l, hs, hk⟩
def u8E (x : Int) : List Value := [.int .u8 x]
theorem u8E_len (x : Int) : (u8E x).length = 1 := rfl
set_option maxRecDepth 100000 in
theorem u8_of_trod (n : Nat) (cs : List Value) (x : DataW H × List MemPlace) (h : DataW.trod enc Tryd.prog w base spare held n 5 cs = some x) : ∃ a, (0 ≤ a ∧ a ≤ 255) ∧ cs = u8E a := by
  obtain ⟨a, e, -, w⟩ := DataW.trod_int (k := .u8) Tryd.underlying5 h
  exact ⟨a, wf_u8 w, by rw [e]; rfl⟩
set_option maxRecDepth 100000 in
theorem open_bytes {r : Reach} {b0 : Nat} {v : Value} {d : DataW H} {p : List MemPlace} (hv : Value.okWide Tryd.prog w r b0 62 v) (h : DataW.Trod enc Tryd.prog w base spare held 62 v d p) : ∃ l, Sl w 1 u8E v l ∧ ∀ a ∈ l, 0 ≤ a ∧ a ≤ 255 := by
  obtain ⟨a, n, c, rfl⟩ := okWide_slice Tryd.underlying62 hv
  obtain ⟨fuel, hf⟩ := h
  obtain ⟨v', l, hv', hs, hk⟩ := sl_of_trod (en := u8E) Tryd.underlying62 (by kernel_rfl) (by omega) u8E_len u8_of_trod hf
  cases hv'
  exact ⟨l, hs, hk⟩
end

end Go.Proofs.YtlijgheghodfeaaDoor
