/- The clock: made, Now, Tick. -/
import Derived.Test.YtadilekaombofaaDoorPk30
import Derived.Test.YtadilekaombofaaDoorPk32
namespace Go.Proofs.YtadilekaombofaaDoor
set_option linter.unusedSimpArgs false
set_option linter.unusedVariables false
open Go.RowKit Go.Maps
def ckMade (t c b : Int) (tick : Bool) : Value := if checkN t c b = 0 then .iface ckT (.agg (ckL ⟨atN t c b 0 0 0, tick, 0, 0⟩).toArray) else .nilIface
def ckErr (t c b : Int) : Int := if checkN t c b = 0 then 0 else 1
set_option maxRecDepth 100000 in
theorem cmade_any (t c b : Int) (tick : Bool) (w : World) (hs : Szs w) : Calls Tryd.prog 33 #[.agg #[.int .i64 t, .int .i64 c, .int .i64 b], .bool tick] w fun e w' => e = .returned (.tuple #[ckMade t c b tick, .int .i64 (ckErr t c b)]) ∧ ∃ r, w' = ext w r := by
 have HS := hid hs
 clear hs
 by_cases h : checkN t c b = 0
 ·have HK := hid h
  have HM := hid (show ckMade t c b tick = .iface ckT (.agg (ckL ⟨atN t c b 0 0 0, tick, 0, 0⟩).toArray) by simp [ckMade, h])
  have HE := hid (show ckErr t c b = 0 by simp [ckErr, h])
  clear h
  go_enter Tryd.func33, Tryd.ntmps33
  go_wp2_with (first
   | (go_call (check_any t c b _ (HS.out.of (by (show Ext _ _; repeat first | (with_reducible first | (refine xH ?_; assumption) | exact xR _ | refine xX ?_ _ | refine xA ?_ _) | refine xD ?_ | refine xN ?_ _ | exact xR _)))) as e w' ⟨rfl, r1, rfl⟩; rw [HK.out])
   | (go_call (clock_any t c b _ (HS.out.of (by (show Ext _ _; repeat first | (with_reducible first | (refine xH ?_; assumption) | exact xR _ | refine xX ?_ _ | refine xA ?_ _) | refine xD ?_ | refine xN ?_ _ | exact xR _)))) as e w' ⟨rfl, r2, rfl⟩))
  go_ret2
  exact ⟨by rw [HM.out, HE.out]; rfl, by (show Ext _ _; repeat first | (with_reducible first | (refine xH ?_; assumption) | exact xR _ | refine xX ?_ _ | refine xA ?_ _) | refine xD ?_ | refine xN ?_ _ | exact xR _)⟩
 ·obtain ⟨k, hk⟩ : ∃ k, k = checkN t c b := ⟨_, rfl⟩
  have HM := hid (show ckMade t c b tick = .nilIface by simp [ckMade, h])
  have HE := hid (show ckErr t c b = 1 by simp [ckErr, h])
  have HK := hid hk
  rw [← hk] at h
  clear hk
  go_enter Tryd.func33, Tryd.ntmps33
  go_wp2_with (go_call (check_any t c b _ (HS.out.of (by (show Ext _ _; repeat first | (with_reducible first | (refine xH ?_; assumption) | exact xR _ | refine xX ?_ _ | refine xA ?_ _) | refine xD ?_ | refine xN ?_ _ | exact xR _)))) as e w' ⟨rfl, r1, rfl⟩; rw [← HK.out])
  go_ret2
  exact ⟨by rw [HM.out, HE.out]; rfl, by (show Ext _ _; repeat first | (with_reducible first | (refine xH ?_; assumption) | exact xR _ | refine xX ?_ _ | refine xA ?_ _) | refine xD ?_ | refine xN ?_ _ | exact xR _)⟩
set_option maxRecDepth 100000 in
theorem cnow_any (t c b : Int) (w : World) (hs : Szs w) : Calls Tryd.prog 16 #[.agg #[.int .i64 t, .int .i64 c, .int .i64 b]] w fun e w' => e = .returned (.tuple #[ckMade t c b false, .int .i64 (ckErr t c b)]) ∧ ∃ r, w' = ext w r := by
 have HS := hid hs
 clear hs
 go_enter Tryd.func16, Tryd.ntmps16
 go_wp2_with (go_call (cmade_any t c b false _ (HS.out.of (by (show Ext _ _; repeat first | (with_reducible first | (refine xH ?_; assumption) | exact xR _ | refine xX ?_ _ | refine xA ?_ _) | refine xD ?_ | refine xN ?_ _ | exact xR _)))) as e w' ⟨rfl, r1, rfl⟩)
 go_ret2
 exact ⟨rfl, by (show Ext _ _; repeat first | (with_reducible first | (refine xH ?_; assumption) | exact xR _ | refine xX ?_ _ | refine xA ?_ _) | refine xD ?_ | refine xN ?_ _ | exact xR _)⟩
set_option maxRecDepth 100000 in
theorem ctick_any (t c b : Int) (w : World) (hs : Szs w) : Calls Tryd.prog 17 #[.agg #[.int .i64 t, .int .i64 c, .int .i64 b]] w fun e w' => e = .returned (.tuple #[ckMade t c b true, .int .i64 (ckErr t c b)]) ∧ ∃ r, w' = ext w r := by
 have HS := hid hs
 clear hs
 go_enter Tryd.func17, Tryd.ntmps17
 go_wp2_with (go_call (cmade_any t c b true _ (HS.out.of (by (show Ext _ _; repeat first | (with_reducible first | (refine xH ?_; assumption) | exact xR _ | refine xX ?_ _ | refine xA ?_ _) | refine xD ?_ | refine xN ?_ _ | exact xR _)))) as e w' ⟨rfl, r1, rfl⟩)
 go_ret2
 exact ⟨rfl, by (show Ext _ _; repeat first | (with_reducible first | (refine xH ?_; assumption) | exact xR _ | refine xX ?_ _ | refine xA ?_ _) | refine xD ?_ | refine xN ?_ _ | exact xR _)⟩
end Go.Proofs.YtadilekaombofaaDoor
