/- The law ClockNone, walked. -/
import Derived.Test.YtaaammenbfinmaaDoorCc
namespace Go.Proofs.YtaaammenbfinmaaDoor
set_option linter.unusedSimpArgs false
set_option linter.unusedVariables false
open Go.RowKit Go.Maps

theorem neq_code_nil (T : TypeId) (cv : Value) (w : World) : (binOp .neq 55 (.iface T cv) .nilIface).run Tryd.prog w = .ok (.bool true) w := by kernel_rfl

set_option maxRecDepth 100000 in
set_option maxHeartbeats 2000000 in
theorem clnone_any (t c b : Int) (w : World) (hs : Szs w) : Calls Tryd.prog 5 #[.agg #[.int .i64 t, .int .i64 c, .int .i64 b]] w fun e w' => e = .returned (.bool true) ∧ Ext w w' := by
  have HS := hid hs
  have h1 := eq_code_nil
  have h2 := eq_nil_nil
  have h3 := neq_code_nil
  clear hs
  by_cases h : checkN t c b = 0
  · have HK := hid h
    have HM := hid (fun tk => show ckMade t c b tk = .iface ckT (.agg (ckL ⟨atN t c b 0 0 0, tk, 0, 0⟩).toArray) by simp [ckMade, h])
    have HE := hid (show ckErr t c b = 0 by simp [ckErr, h])
    clear h
    go_enter Tryd.func5, Tryd.ntmps5
    go_wp2_with fail
    refine (cnow_any t c b _ (HS.out.of (by (show Ext _ _; repeat first | (with_reducible first | (refine xH ?_; assumption) | exact xR _ | refine xX ?_ _ | refine xA ?_ _) | refine xD ?_ | refine xN ?_ _ | exact xR _)))).mono ?_
    rintro e w1 ⟨rfl, r1, rfl⟩
    rw [HM.out, HE.out]
    go_wp2_with fail
    refine (ctick_any t c b _ (HS.out.of (by (show Ext _ _; repeat first | (with_reducible first | (refine xH ?_; assumption) | exact xR _ | refine xX ?_ _ | refine xA ?_ _) | refine xD ?_ | refine xN ?_ _ | exact xR _)))).mono ?_
    rintro e w2 ⟨rfl, r2, rfl⟩
    rw [HM.out, HE.out]
    go_wp2_with fail
    refine (ctime_nil _).mono ?_
    rintro e w3 ⟨rfl, r3, rfl⟩
    go_wp2_with fail
    refine (check_any t c b _ (HS.out.of (by (show Ext _ _; repeat first | (with_reducible first | (refine xH ?_; assumption) | exact xR _ | refine xX ?_ _ | refine xA ?_ _) | refine xD ?_ | refine xN ?_ _ | exact xR _)))).mono ?_
    rintro e w4 ⟨rfl, r4, rfl⟩
    rw [HK.out]
    go_wp2_with fail
    refine (ctime_under (atN t c b 0 0 0) true 0 0 (by decide) _).mono ?_
    rintro e w5 ⟨rfl, r5, rfl⟩
    go_wp2_with fail
    refine (awake26_any (HS.out.of (by (show Ext _ _; repeat first | (with_reducible first | (refine xH ?_; assumption) | exact xR _ | refine xX ?_ _ | refine xA ?_ _) | refine xD ?_ | refine xN ?_ _ | exact xR _)))).mono ?_
    rintro e w6 ⟨rfl, r6, rfl⟩
    go_wp2_with fail
    go_ret
    exact ⟨rfl, by (show Ext _ _; repeat first | (with_reducible first | (refine xH ?_; assumption) | exact xR _ | refine xX ?_ _ | refine xA ?_ _) | refine xD ?_ | refine xN ?_ _ | exact xR _)⟩
  · obtain ⟨k, hk⟩ : ∃ k, k = checkN t c b := ⟨_, rfl⟩
    have HM := hid (fun tk => show ckMade t c b tk = .nilIface by simp [ckMade, h])
    have HE := hid (show ckErr t c b = 1 by simp [ckErr, h])
    have HK := hid hk
    rw [← hk] at h
    clear hk
    go_enter Tryd.func5, Tryd.ntmps5
    go_wp2_with fail
    refine (cnow_any t c b _ (HS.out.of (by (show Ext _ _; repeat first | (with_reducible first | (refine xH ?_; assumption) | exact xR _ | refine xX ?_ _ | refine xA ?_ _) | refine xD ?_ | refine xN ?_ _ | exact xR _)))).mono ?_
    rintro e w1 ⟨rfl, r1, rfl⟩
    rw [HM.out, HE.out]
    go_wp2_with fail
    refine (ctick_any t c b _ (HS.out.of (by (show Ext _ _; repeat first | (with_reducible first | (refine xH ?_; assumption) | exact xR _ | refine xX ?_ _ | refine xA ?_ _) | refine xD ?_ | refine xN ?_ _ | exact xR _)))).mono ?_
    rintro e w2 ⟨rfl, r2, rfl⟩
    rw [HM.out, HE.out]
    go_wp2_with fail
    refine (ctime_nil _).mono ?_
    rintro e w3 ⟨rfl, r3, rfl⟩
    go_wp2_with fail
    refine (check_any t c b _ (HS.out.of (by (show Ext _ _; repeat first | (with_reducible first | (refine xH ?_; assumption) | exact xR _ | refine xX ?_ _ | refine xA ?_ _) | refine xD ?_ | refine xN ?_ _ | exact xR _)))).mono ?_
    rintro e w4 ⟨rfl, r4, rfl⟩
    rw [← HK.out]
    go_wp2_with fail
    refine (awake26_any (HS.out.of (by (show Ext _ _; repeat first | (with_reducible first | (refine xH ?_; assumption) | exact xR _ | refine xX ?_ _ | refine xA ?_ _) | refine xD ?_ | refine xN ?_ _ | exact xR _)))).mono ?_
    rintro e w6 ⟨rfl, r6, rfl⟩
    go_wp2_with fail
    go_ret
    exact ⟨rfl, by (show Ext _ _; repeat first | (with_reducible first | (refine xH ?_; assumption) | exact xR _ | refine xX ?_ _ | refine xA ?_ _) | refine xD ?_ | refine xN ?_ _ | exact xR _)⟩

end Go.Proofs.YtaaammenbfinmaaDoor
