/- The frame of layer 11's laws: the listed table, a layout by value. -/
import Derived.Test.YtadilekaombofaaDoorPk46
import Derived.Test.YtadilekaombofaaDoorPk31
namespace Go.Proofs.YtadilekaombofaaDoor
set_option linter.unusedSimpArgs false
set_option linter.unusedVariables false
open Go.ChangeShapes Go.WideShapes Go.ChangeAt Go.WideMaps Go.WideElems Go.RowKit Go.Joins
abbrev layLaid : List (String × DataW Unit) := [("simulcast/layout.sizes", Rows.laid_simulcast_layout_sizes)]
theorem lay_met (os : Os) (args : Array Value) : laidMetH Tryd.prog layLaid ((World.doorLaid Tryd.prog 200 os).forCall (fun _ _ => 0) ⟨#[], args, []⟩).memory :=
 laidMetH_of_parts3 (fuel := 8) (laidMet_of_run' 8 (by kernel_rfl) (by kernel_rfl)) (by kernel_rfl) (by kernel_rfl)
theorem lay_global : Tryd.prog.globalNamed "simulcast/layout.sizes" = some 0 := by kernel_rfl
theorem lay_gtype : (Tryd.prog.globals[0]?).map (·.type) = some 140 := by kernel_rfl
theorem szs_of_laid {W : World} (h : laidMetH Tryd.prog layLaid W) : Szs W := by
 rw [MakeChecks.laidMetH_plain _ _ _ (by kernel_rfl)] at h
 have ht := Lib.tabIs_of_head (P := Tryd.prog) (W := W) (name := "simulcast/layout.sizes") (k := .i64) (zs := [8, 8, 8, 1, 104, 0, 32]) (rest := []) lay_global lay_gtype Tryd.underlying140 Tryd.underlying3 (by kernel_rfl) (by kernel_rfl) h
 intro i hi
 have := ht.cell lay_global i (by simpa using hi)
 rw [this]
 match i, hi with
 | 0, _ => rfl
 | 1, _ => rfl
 | 2, _ => rfl
 | 3, _ => rfl
 | 4, _ => rfl
 | 5, _ => rfl
 | 6, _ => rfl
end Go.Proofs.YtadilekaombofaaDoor
