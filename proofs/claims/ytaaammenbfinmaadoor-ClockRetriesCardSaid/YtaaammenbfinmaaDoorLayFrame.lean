/- The frame of layer 11's laws: the listed table, a layout by value. -/
import Derived.Test.YtaaammenbfinmaaDoorFrame
import Derived.Test.YtaaammenbfinmaaDoorLayD
namespace Go.Proofs.YtaaammenbfinmaaDoor
set_option linter.unusedSimpArgs false
set_option linter.unusedVariables false
open Go.ChangeShapes Go.WideShapes Go.ChangeAt Go.WideMaps Go.WideElems Go.RowKit Go.Joins

abbrev layLaid : List (String × DataW Unit) := [("simulcast/layout.sizes", Rows.laid_simulcast_layout_sizes)]

theorem lay_met (os : Os) (args : Array Value) : laidMetH Tryd.prog layLaid ((World.doorLaid Tryd.prog 200 os).forCall (fun _ _ => 0) ⟨#[], args, []⟩).memory :=
  laidMetH_of_parts3 (fuel := 8) (laidMet_of_run' 8 (by kernel_rfl) (by kernel_rfl)) (by kernel_rfl) (by kernel_rfl)

theorem lay_global : Tryd.prog.globalNamed "simulcast/layout.sizes" = some 0 := by kernel_rfl
theorem lay_gtype : (Tryd.prog.globals[0]?).map (·.type) = some 143 := by kernel_rfl

theorem szs_of_laid {W : World} (h : laidMetH Tryd.prog layLaid W) : Szs W := by
  rw [MakeChecks.laidMetH_plain _ _ _ (by kernel_rfl)] at h
  have ht := Lib.tabIs_of_head (P := Tryd.prog) (W := W) (name := "simulcast/layout.sizes") (k := .i64) (zs := [8, 8, 8, 1, 104, 0, 32]) (rest := []) lay_global lay_gtype Tryd.underlying143 Tryd.underlying3 (by kernel_rfl) (by kernel_rfl) h
  intro i hi
  have := ht.cell lay_global i (by simpa using hi)
  rw [this]
  match i, hi with
  | 0, _ => rfl
  | 1, _ => rfl
  | 2, _ => rfl
  | 3, _ => rfl
  | 4, _ => rfl
  | 5, _ => rfl
  | 6, _ => rfl

theorem Tryd.cellsLay : Tryd.prog.cellsOf 70 = 3 := by kernel_rfl

set_option maxRecDepth 100000 in
theorem open_lay {H : Type} {enc : TypeId × Value → H} {W : World} {base : Nat} {v : Value} {d : DataW H} {p : List MemPlace} (hv : Value.okWide Tryd.prog W .any base 70 v) (h : DataW.Trod enc Tryd.prog W 0 (fun _ => true) true 70 v d p) :
    ∃ t c b : Int, v = .agg #[.int .i64 t, .int .i64 c, .int .i64 b] ∧ (-9223372036854775808 ≤ t ∧ t ≤ 9223372036854775807) ∧ (-9223372036854775808 ≤ c ∧ c ≤ 9223372036854775807) ∧ (-9223372036854775808 ≤ b ∧ b ≤ 9223372036854775807) := by
  obtain ⟨c0, c1, c2, y0, y1, y2, m, rfl, rfl, rfl, hy0, hy1, hy2⟩ := open_agg3 Tryd.underlying70 (by kernel_rfl) Tryd.cellsLay hv h
  obtain ⟨t, e0, rfl, wt⟩ := DataW.trod_int Tryd.underlying3 hy0
  obtain ⟨c, e1, rfl, wc⟩ := DataW.trod_int Tryd.underlying3 hy1
  obtain ⟨b, e2, rfl, wb⟩ := DataW.trod_int Tryd.underlying3 hy2
  simp at e0 e1 e2
  subst e0 e1 e2
  exact ⟨t, c, b, rfl, int_bd wt, int_bd wc, int_bd wb⟩

set_option maxRecDepth 100000 in
theorem lay_read : ∀ t ∈ [70], Tryd.prog.readableRec t = true ∧ t < Tryd.prog.types.size := by
  intro t ht
  simp only [List.mem_singleton] at ht
  subst ht
  exact ⟨by kernel_rfl, of_decide_eq_true (by kernel_rfl)⟩

end Go.Proofs.YtaaammenbfinmaaDoor
