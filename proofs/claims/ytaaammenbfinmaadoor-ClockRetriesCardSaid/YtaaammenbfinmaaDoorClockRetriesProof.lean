/- ClockRetries (simulcastlaw26) is proved: a Tick takes two steps plus at most one for each other Tick that finishes during its execution, so some Tick always makes progress: the law returns true for every input, and its arguments read afterwards as they read before. The listed table layout.sizes is tied to the program's text by the given tie. No other condition. -/
import Derived.Test.YtaaammenbfinmaaDoorClRWalk
import Derived.Test.YtaaammenbfinmaaDoorLayFrame
import Derived.Test.YtaaammenbfinmaaDoorArgsP
import Derived.Test.YtaaammenbfinmaaDoorCards
import Derived.Test.YtaaammenbfinmaaDoorTie
namespace Go.Proofs.YtaaammenbfinmaaDoor
set_option linter.unusedSimpArgs false
set_option linter.unusedVariables false
open Go.ChangeShapes Go.WideShapes Go.ChangeAt Go.WideMaps Go.WideElems Go.RowKit Go.Joins

set_option maxRecDepth 100000 in
theorem clockRetries_lifted (os : Os) (started : os.Started) (H : Type) (enc : TypeId × Value → H) :
    ReturnsInHanded {} Tryd.checked os 6 .any (fun w args => (Rows.clockRetriesSpec.pre enc Tryd.prog Tryd.f6 [] false w args ∧ laidMetH Tryd.prog layLaid w) ∧ sizedMet enc Tryd.prog Tryd.f6 (OpenSpec.ofChange Rows.clockRetriesSpec) false w args)
      (Rows.clockRetriesSpec.post enc Tryd.prog Tryd.f6 false true false false) := by
  refine returnsInHanded_of_change_and (C := Tryd.checked) (X := fun w _ => laidMetH Tryd.prog layLaid w) (fun _ _ _ hh h => h.of_heap hh) Tryd.own started (by kernel_rfl) Tryd.func6
    (ChangeSpec.witness_shaped (enc := enc) (C := Tryd.checked) (os := os) (X := fun w _ => laidMetH Tryd.prog layLaid w) false (World.doorLaid Tryd.prog 200 os) #[.int .i64 0, .slice none 0 0] 8 rfl (World.shaped_of_RefB (by kernel_rfl) (by kernel_rfl)) (by kernel_rfl) (by kernel_rfl) (by kernel_rfl) (lay_met os _)) ?_
  intro W base args ds gs before hval0 hW _ _ hL _
  have hval : ∀ (j : Nat) t v, Tryd.f6.params[j]? = some t → args[j]? = some v → Value.okWide Tryd.prog W .any base t v := hval0
  have hW' := hW
  obtain ⟨p, q, hA0, hV, rfl, hfz, hnd⟩ := hW
  have hA : DataW.TrodAll enc Tryd.prog W 0 (fun _ => true) true Tryd.f6.params.toList args.toList ds p := hA0
  rw [Tryd.params6] at hA hval
  obtain ⟨v0, v1, d0, d1, p0, p1, rfl, rfl, rfl, h0, h1⟩ := trodAll_two hA
  obtain ⟨rfl, rfl⟩ := trodVars_none hV
  obtain ⟨time, rfl, rfl, rfl, wtime⟩ := open_int Tryd.underlying2 (hval 0 _ v0 rfl rfl) h0
  obtain ⟨pk, slpk⟩ := open_picks (hval 1 _ v1 rfl rfl) h1
  have hs := szs_of_laid hL
  clear hA0 hval0
  refine (clretries_any time hs slpk).mono fun e W' ⟨he, hE⟩ => ?_
  refine ⟨_, he, law_post _ Rows.clockRetriesSpec rfl rfl rfl hW' rfl rfl rfl ?_ hE⟩
  rw [Tryd.params6]
  intro t ht
  simp only [List.mem_cons, List.not_mem_nil, or_false] at ht
  rcases ht with rfl | rfl
  all_goals exact ⟨by kernel_rfl, of_decide_eq_true (by kernel_rfl)⟩

theorem clockRetries_row : Rows.ClockRetriesSaid :=
  OpenClaim.holds_of_wide 6 Tryd.f6 rfl rfl rfl rfl rfl rfl rfl ⟨rfl, rfl, rfl, rfl, rfl⟩ rfl rfl rfl rfl rfl (by kernel_rfl) Tryd.func6 (by kernel_rfl)
    (of_decide_eq_true (by kernel_rfl)) (by unfold Func.isWrapper; first | (rw [if_pos (by decide +kernel)]; kernel_rfl) | (rw [if_neg (by decide +kernel)]; exact ⟨rfl, rfl⟩))
    (fun os started H enc _ => clockRetries_lifted os started H enc)

theorem clockRetries_card : Rows.ClockRetriesCardSaid :=
  Claim7.holds_tied_plain_at .later [] [.data] true Rows.clockRetriesCard.stood.harness true
    clockRetries_row (fun _ h => by cases h) (by kernel_rfl) (fun _ h => by cases h) clockRetries_row_tie rfl ⟨rfl, rfl⟩ (by kernel_rfl) rfl
    (fun f fn hf hfn => by
      obtain rfl : f = 6 := Option.some.inj ((show Tryd.prog.funcNamed "simulcast/simulcastlaw26.ClockRetries" = some 6 by kernel_rfl).symm.trans hf) |>.symm
      obtain rfl : fn = Tryd.f6 := (Option.some.inj (Tryd.func6.symm.trans hfn)).symm
      exact ⟨by kernel_rfl, fun j t ht => by
        rw [Tryd.params6] at ht
        have hm : t ∈ [2, 24] := by simpa using Array.mem_of_getElem? ht
        have hall : ([2, 24].all fun u => !Tryd.prog.wantsStandIn u) = true := by kernel_rfl
        exact (show Tryd.prog.wantsStandIn t = false by simpa using List.all_eq_true.1 hall t hm)⟩)
    (by kernel_rfl)
#print axioms clockRetries_card

end Go.Proofs.YtaaammenbfinmaaDoor
