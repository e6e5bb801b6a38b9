/- Entries compared; the walk of the reference's Same. -/
import Derived.Test.YtfijnpfhffhffaaDoorDescG
namespace Go.Proofs.YtfijnpfhffhffaaDoor
set_option linter.unusedSimpArgs false
set_option linter.unusedVariables false
open Go.RowKit

/-- Plain: are the entries equal? -/
def enB (x y : En) : Bool := decide (x.loc = y.loc) && (decide (x.val = y.val) && decide (x.ver = y.ver) && decide (x.ref = y.ref)) && decide (x.new = y.new) && decide (x.wr = y.wr)
theorem enB_eq (x y : En) : enB x y = true ↔ x = y := by
  obtain ⟨x1, x2, x3, x4, x5, x6⟩ := x
  obtain ⟨y1, y2, y3, y4, y5, y6⟩ := y
  simp only [enB, Bool.and_eq_true, decide_eq_true_eq, En.mk.injEq]
  constructor
  · rintro ⟨⟨⟨h1, ⟨h2, h3⟩, h4⟩, h5⟩, h6⟩; exact ⟨h1, h2, h3, h4, h5, h6⟩
  · rintro ⟨h1, h2, h3, h4, h5, h6⟩; exact ⟨⟨⟨h1, ⟨h2, h3⟩, h4⟩, h5⟩, h6⟩
set_option maxRecDepth 100000 in
set_option maxHeartbeats 2000000 in
theorem eqIn_entry (x y : En) (w : World) : (Op.equalIn 10000 75 (.agg #[.int .i64 x.loc, .int .i64 x.val, .int .u32 x.ver, .int .u32 x.ref, .int .i64 x.new, .bool x.wr]) (.agg #[.int .i64 y.loc, .int .i64 y.val, .int .u32 y.ver, .int .u32 y.ref, .int .i64 y.new, .bool y.wr])).run Tryd.prog w = .ok (enB x y) w := by
  have hp : Tryd.prog.stoodInHeld 75 = false := by kernel_rfl
  have hp2 : Tryd.prog.stoodInHeld 60 = false := by kernel_rfl
  rw [run_equalIn_struct w 9999 _ _ _ (by kernel_rfl) hp]
  obtain ⟨x1, x2, x3, x4, x5, x6⟩ := x
  obtain ⟨y1, y2, y3, y4, y5, y6⟩ := y
  unfold enB
  by_cases h1 : x1 = y1
  · by_cases h2 : x2 = y2
    · by_cases h3 : x3 = y3
      · by_cases h4 : x4 = y4
        · by_cases h5 : x5 = y5
          · by_cases h6 : x6 = y6
            all_goals simp [Op.eqFields, Program.fieldsOf, Tryd.underlying75, Tryd.underlying60, go_sem, h1, h2, h3, h4, h5, h6, hp2]
          · simp [Op.eqFields, Program.fieldsOf, Tryd.underlying75, Tryd.underlying60, go_sem, h1, h2, h3, h4, h5, hp2]
        · simp [Op.eqFields, Program.fieldsOf, Tryd.underlying75, Tryd.underlying60, go_sem, h1, h2, h3, h4, hp2]
      · simp [Op.eqFields, Program.fieldsOf, Tryd.underlying75, Tryd.underlying60, go_sem, h1, h2, h3, hp2]
    · simp [Op.eqFields, Program.fieldsOf, Tryd.underlying75, Tryd.underlying60, go_sem, h1, h2, hp2]
  · simp [Op.eqFields, Program.fieldsOf, Tryd.underlying75, Tryd.underlying60, go_sem, h1, hp2]
theorem neq_entry (x y : En) (w : World) : (binOp .neq 75 (.agg #[.int .i64 x.loc, .int .i64 x.val, .int .u32 x.ver, .int .u32 x.ref, .int .i64 x.new, .bool x.wr]) (.agg #[.int .i64 y.loc, .int .i64 y.val, .int .u32 y.ver, .int .u32 y.ref, .int .i64 y.new, .bool y.wr])).run Tryd.prog w = .ok (.bool (!enB x y)) w := by
  rw [run_neq_struct, eqIn_entry]; rfl
theorem eq_entry (x y : En) (w : World) : (binOp .eql 75 (.agg #[.int .i64 x.loc, .int .i64 x.val, .int .u32 x.ver, .int .u32 x.ref, .int .i64 x.new, .bool x.wr]) (.agg #[.int .i64 y.loc, .int .i64 y.val, .int .u32 y.ver, .int .u32 y.ref, .int .i64 y.new, .bool y.wr])).run Tryd.prog w = .ok (.bool (enB x y)) w := by
  rw [run_eql_struct, eqIn_entry]; rfl
theorem eq_guard_entry (op : BinOp) (x y : Operand) (xs ys : Array Value) (w : World) : (eqGuard op 75 x y (.agg xs) (.agg ys)).run Tryd.prog w = .ok () w :=
  run_eqGuard_agg w op _ x y xs ys (by kernel_rfl)

/-- Plain: are the lists of entries equal? -/
def sameG (l k : List En) : Bool := (l.zip k).all (fun p => enB p.1 p.2)
def sameB (l k : List En) : Bool := decide (l.length = k.length) && sameG l k
theorem sameG_at {l k : List En} {j : Nat} {x y : En} (hx : l[j]? = some x) (hy : k[j]? = some y) : sameG (l.drop j) (k.drop j) = (enB x y && sameG (l.drop (j + 1)) (k.drop (j + 1))) := by
  obtain ⟨hj, hk⟩ := List.getElem?_eq_some_iff.1 hx
  obtain ⟨hj2, hk2⟩ := List.getElem?_eq_some_iff.1 hy
  rw [List.drop_eq_getElem_cons hj, List.drop_eq_getElem_cons hj2, hk, hk2]
  rfl
theorem sameB_iff (l k : List En) : sameB l k = true ↔ l = k := by
  have hg : ∀ (l k : List En), l.length = k.length → (sameG l k = true ↔ l = k) := by
    intro l
    induction l with
    | nil => intro k h; cases k with
      | nil => simp [sameG]
      | cons y r => simp at h
    | cons x r ih => intro k h; cases k with
      | nil => simp at h
      | cons y s =>
        have := ih s (by simpa using h)
        unfold sameG at this ⊢
        simp only [List.zip_cons_cons, List.all_cons, Bool.and_eq_true, enB_eq, List.cons.injEq]
        rw [this]
  unfold sameB
  rw [Bool.and_eq_true, decide_eq_true_eq]
  constructor
  · rintro ⟨h1, h2⟩; exact (hg l k h1).1 h2
  · rintro rfl; exact ⟨rfl, (hg l l rfl).2 rfl⟩

end Go.Proofs.YtfijnpfhffhffaaDoor
