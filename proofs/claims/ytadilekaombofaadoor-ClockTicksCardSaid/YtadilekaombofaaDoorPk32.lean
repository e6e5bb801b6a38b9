/- Walks of package layout's exported functions: locations, Place, Bits, May. -/
import Derived.Test.YtadilekaombofaaDoorPk31
namespace Go.Proofs.YtadilekaombofaaDoor
set_option linter.unusedSimpArgs false
set_option linter.unusedVariables false
open Go.RowKit
set_option maxHeartbeats 400000 in
theorem clock_any (t c b : Int) (w : World) (hs : Szs w) :
 Calls Tryd.prog 49 #[.agg #[.int .i64 t, .int .i64 c, .int .i64 b]] w fun e w' => e = .returned (.int .i64 (atN t c b 0 0 0)) ∧ ∃ r, w' = ext w r := by
 have HS := hid hs
 clear hs
 go_enter Tryd.func49, Tryd.ntmps49
 go_wp2_with fail
 go_call (at_any t c b 0 (by omega) 0 0 (fun _ _ _ => by omega) _ (HS.out.alloc _)) as e w' ⟨rfl, r, rfl⟩
 go_wp2_with fail
 go_ret
 exact ⟨rfl, by (show Ext _ _; repeat first | (with_reducible first | (refine xH ?_; assumption) | exact xR _ | refine xX ?_ _ | refine xA ?_ _) | refine xD ?_ | refine xN ?_ _ | exact xR _)⟩
set_option maxHeartbeats 400000 in
theorem era_any (t c b : Int) (w : World) (hs : Szs w) :
 Calls Tryd.prog 28 #[.agg #[.int .i64 t, .int .i64 c, .int .i64 b]] w fun e w' => e = .returned (.int .i64 (atN t c b 0 0 1)) ∧ ∃ r, w' = ext w r := by
 have HS := hid hs
 clear hs
 go_enter Tryd.func28, Tryd.ntmps28
 go_wp2_with fail
 go_call (at_any t c b 0 (by omega) 0 1 (fun _ _ _ => by omega) _ (HS.out.alloc _)) as e w' ⟨rfl, r, rfl⟩
 go_wp2_with fail
 go_ret
 exact ⟨rfl, by (show Ext _ _; repeat first | (with_reducible first | (refine xH ?_; assumption) | exact xR _ | refine xX ?_ _ | refine xA ?_ _) | refine xD ?_ | refine xN ?_ _ | exact xR _)⟩
set_option maxHeartbeats 400000 in
theorem slot_any (t c b x : Int) (w : World) (hs : Szs w) :
 Calls Tryd.prog 29 #[.agg #[.int .i64 t, .int .i64 c, .int .i64 b], .int .i64 x] w fun e w' => e = .returned (.int .i64 (atN t c b 4 (wrap64 (x - 1)) 0)) ∧ ∃ r, w' = ext w r := by
 have HS := hid hs
 clear hs
 go_enter Tryd.func29, Tryd.ntmps29
 go_wp2_with fail
 go_call (at_any t c b 4 (by omega) (wrap64 (x - 1)) 0 (fun _ _ _ => by omega) _ (HS.out.alloc _)) as e w' ⟨rfl, r, rfl⟩
 go_wp2_with fail
 go_ret
 exact ⟨rfl, by (show Ext _ _; repeat first | (with_reducible first | (refine xH ?_; assumption) | exact xR _ | refine xX ?_ _ | refine xA ?_ _) | refine xD ?_ | refine xN ?_ _ | exact xR _)⟩
set_option maxHeartbeats 400000 in
theorem block_any (t c b x : Int) (w : World) (hs : Szs w) :
 Calls Tryd.prog 30 #[.agg #[.int .i64 t, .int .i64 c, .int .i64 b], .int .i64 x] w fun e w' => e = .returned (.int .i64 (atN t c b 6 x 0)) ∧ ∃ r, w' = ext w r := by
 have HS := hid hs
 clear hs
 go_enter Tryd.func30, Tryd.ntmps30
 go_wp2_with fail
 go_call (at_any t c b 6 (by omega) x 0 (fun _ _ _ => by omega) _ (HS.out.alloc _)) as e w' ⟨rfl, r, rfl⟩
 go_wp2_with fail
 go_ret
 exact ⟨rfl, by (show Ext _ _; repeat first | (with_reducible first | (refine xH ?_; assumption) | exact xR _ | refine xX ?_ _ | refine xA ?_ _) | refine xD ?_ | refine xN ?_ _ | exact xR _)⟩
def placeN (t c b who : Int) : Int × Int :=
 let at_ := if 9 ≤ who then atN t c b 6 (who - 9) 0 else atN t c b 4 (wrap64 (who - 1)) 0
 if at_ < 0 then (-1, 0) else (at_, if 9 ≤ who then 10 else 32)
def bitsN (t c b i : Int) : Int × Int :=
 if rightN t c b = true ∧ 0 ≤ i ∧ i < b then (fromN t c b 5 + i / 32, 2 ^ (i % 32).toNat) else (-1, 0)
def mayN (t c b n : Int) : Bool :=
 rightN t c b && (decide (fromN t c b 3 ≤ n ∧ n < fromN t c b 3 + c) || decide (fromN t c b 2 ≤ n ∧ n < fromN t c b 3 ∧ n % 8 < 3))
end Go.Proofs.YtadilekaombofaaDoor
