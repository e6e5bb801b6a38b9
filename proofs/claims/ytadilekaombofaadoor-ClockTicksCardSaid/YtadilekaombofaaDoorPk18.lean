/- The machine (simulcast/machine): small functions. -/
import Derived.Test.YtadilekaombofaaDoorPk17
namespace Go.Proofs.YtadilekaombofaaDoor
set_option linter.unusedSimpArgs false
set_option linter.unusedVariables false
open Go.RowKit Go.Maps
section
variable (pa va fa la sa : Option Addr) (pn pc vn vc fn fc ln lc sn sc : Nat) (q : Option Nat) (cr : Int)
abbrev mcL : List Value := [.slice pa pn pc, .slice va vn vc, .slice fa fn fc, .slice la ln lc, .map q, .slice sa sn sc, .int .i64 cr]
theorem mcsize_any (w : World) : Calls Tryd.prog 34 #[.agg #[.slice pa pn pc, .slice va vn vc, .slice fa fn fc, .slice la ln lc, .map q, .slice sa sn sc, .int .i64 cr]] w fun e w' => e = .returned (.tuple #[.int .i64 vn, .int .i64 pn]) ∧ ∃ r, w' = ext w r := by
 go_enter Tryd.func34, Tryd.ntmps34
 go_wp2_with (go_call (msize_any pa va pn pc vn vc _) as e w' ⟨rfl, r1, rfl⟩)
 go_ret2
 exact ⟨rfl, by (show Ext _ _; repeat first | (with_reducible first | (refine xH ?_; assumption) | exact xR _ | refine xX ?_ _ | refine xA ?_ _) | refine xD ?_ | refine xN ?_ _ | exact xR _)⟩
theorem mccheck_any (op : Int) (hop : op = 5 ∨ op = 6) (t at_ : Int) (ht : 1 ≤ t ∧ t ≤ vn) (hat : 0 ≤ at_ ∧ at_ < pn) (o1 o2 o3 n1 n2 n3 : Int) (w : World) : Calls Tryd.prog 57 #[.agg #[.slice pa pn pc, .slice va vn vc, .slice fa fn fc, .slice la ln lc, .map q, .slice sa sn sc, .int .i64 cr], .int .i64 t, .agg #[.int .i64 op, .int .i64 at_, .int .i64 o1, .int .u32 o2, .int .u32 o3, .int .i64 n1, .int .u32 n2, .int .u32 n3]] w fun e w' => e = .returned (.int .i64 0) ∧ ∃ r, w' = ext w r := by
 have h1 : ¬ t < 1 := by omega
 have h2 : ¬ (vn : Int) < t := by omega
 have h3 : ¬ at_ < 0 := by omega
 have h4 : ¬ (pn : Int) ≤ at_ := by omega
 clear ht hat
 rcases hop with rfl | rfl
 all_goals
  go_enter Tryd.func57, Tryd.ntmps57
  go_wp2_with (go_call (mcsize_any pa va fa la sa pn pc vn vc fn fc ln lc sn sc q cr _) as e w' ⟨rfl, r1, rfl⟩)
  go_ret
  exact ⟨rfl, by (show Ext _ _; repeat first | (with_reducible first | (refine xH ?_; assumption) | exact xR _ | refine xX ?_ _ | refine xA ?_ _) | refine xD ?_ | refine xN ?_ _ | exact xR _)⟩
theorem mcchanges_any (op : Int) (hop : op = 5 ∨ op = 6) (at_ o1 o2 o3 n1 n2 n3 : Int) (w : World) : Calls Tryd.prog 58 #[.agg #[.int .i64 op, .int .i64 at_, .int .i64 o1, .int .u32 o2, .int .u32 o3, .int .i64 n1, .int .u32 n2, .int .u32 n3]] w fun e w' => e = .returned (.bool (op == 6)) ∧ ∃ r, w' = ext w r := by
 rcases hop with rfl | rfl
 all_goals
  go_enter Tryd.func58, Tryd.ntmps58
  go_wp2_with fail
  go_ret
  exact ⟨rfl, by (show Ext _ _; repeat first | (with_reducible first | (refine xH ?_; assumption) | exact xR _ | refine xX ?_ _ | refine xA ?_ _) | refine xD ?_ | refine xN ?_ _ | exact xR _)⟩
end
end Go.Proofs.YtadilekaombofaaDoor
