/- ClockTicks (simulcastlaw26) is proved: under any schedule of three threads the clock counts the finished ticks, the time of a Tick is the clock after its last step and unique, and the time of a Now is the clock at its step: the law returns true for every input, and its arguments read afterwards as they read before. The listed table layout.sizes is tied to the program's text by the given tie. No other condition. -/
import Derived.Test.YtadilekaombofaaDoorPk45
import Derived.Test.YtadilekaombofaaDoorPk47
import Derived.Test.YtadilekaombofaaDoorPk52
import Derived.Test.YtadilekaombofaaDoorCards
import Derived.Test.YtadilekaombofaaDoorTie
namespace Go.Proofs.YtadilekaombofaaDoor
set_option linter.unusedSimpArgs false
set_option linter.unusedVariables false
open Go.ChangeShapes Go.WideShapes Go.ChangeAt Go.WideMaps Go.WideElems Go.RowKit Go.Joins
set_option maxRecDepth 100000 in
theorem clockTicks_lifted (os : Os) (started : os.Started) (H : Type) (enc : TypeId × Value → H) :
 ReturnsInHanded {} Tryd.checked os 3 .any (fun w args => (Rows.clockTicksSpec.pre enc Tryd.prog Tryd.f3 [] false w args ∧ laidMetH Tryd.prog layLaid w) ∧ sizedMet enc Tryd.prog Tryd.f3 (OpenSpec.ofChange Rows.clockTicksSpec) false w args)
  (Rows.clockTicksSpec.post enc Tryd.prog Tryd.f3 false true false false) := by
 refine returnsInHanded_of_change_and (C := Tryd.checked) (X := fun w _ => laidMetH Tryd.prog layLaid w) (fun _ _ _ hh h => h.of_heap hh) Tryd.own started (by kernel_rfl) Tryd.func3
  (ChangeSpec.witness_shaped (enc := enc) (C := Tryd.checked) (os := os) (X := fun w _ => laidMetH Tryd.prog layLaid w) false (World.doorLaid Tryd.prog 200 os) #[.int .i64 0, .agg #[.bool false, .bool false, .bool false], .slice none 0 0] 8 rfl (World.shaped_of_RefB (by kernel_rfl) (by kernel_rfl)) (by kernel_rfl) (by kernel_rfl) (by kernel_rfl) (lay_met os _)) ?_
 intro W base args ds gs before hval0 hW _ _ hL _
 have hval : ∀ (j : Nat) t v, Tryd.f3.params[j]? = some t → args[j]? = some v → Value.okWide Tryd.prog W .any base t v := hval0
 have hW' := hW
 obtain ⟨p, q, hA0, hV, rfl, hfz, hnd⟩ := hW
 have hA : DataW.TrodAll enc Tryd.prog W 0 (fun _ => true) true Tryd.f3.params.toList args.toList ds p := hA0
 rw [Tryd.params3] at hA hval
 obtain ⟨v0, v1, v2, d0, d1, d2, p0, p1, p2, rfl, rfl, rfl, h0, h1, h2⟩ := trodAll_three hA
 obtain ⟨rfl, rfl⟩ := trodVars_none hV
 obtain ⟨time, rfl, rfl, rfl, wtime⟩ := open_int Tryd.underlying2 (hval 0 _ v0 rfl rfl) h0
 obtain ⟨sx, sy, sz, rfl⟩ := open_some26 (hval 1 _ v1 rfl rfl) h1
 obtain ⟨pk, slpk⟩ := open_picks (hval 2 _ v2 rfl rfl) h2
 have hs := szs_of_laid hL
 clear hA0 hval0
 refine (clticks_any time sx sy sz hs slpk).mono fun e W' ⟨he, hE⟩ => ?_
 refine ⟨_, he, law_post _ Rows.clockTicksSpec rfl rfl rfl hW' rfl rfl rfl ?_ hE⟩
 rw [Tryd.params3]
 intro t ht
 simp only [List.mem_cons, List.not_mem_nil, or_false] at ht
 rcases ht with rfl | rfl | rfl
 all_goals exact ⟨by kernel_rfl, of_decide_eq_true (by kernel_rfl)⟩
theorem clockTicks_row : Rows.ClockTicksSaid :=
 OpenClaim.holds_of_wide 3 Tryd.f3 rfl rfl rfl rfl rfl rfl rfl ⟨rfl, rfl, rfl, rfl, rfl⟩ rfl rfl rfl rfl rfl (by kernel_rfl) Tryd.func3 (by kernel_rfl)
  (of_decide_eq_true (by kernel_rfl)) (by unfold Func.isWrapper; first | (rw [if_pos (by decide +kernel)]; kernel_rfl) | (rw [if_neg (by decide +kernel)]; exact ⟨rfl, rfl⟩))
  (fun os started H enc _ => clockTicks_lifted os started H enc)
theorem clockTicks_card : Rows.ClockTicksCardSaid :=
 Claim7.holds_tied_plain_at .later [] [.data] true Rows.clockTicksCard.stood.harness true
  clockTicks_row (fun _ h => by cases h) (by kernel_rfl) (fun _ h => by cases h) clockTicks_row_tie rfl ⟨rfl, rfl⟩ (by kernel_rfl) rfl
  (fun f fn hf hfn => by
   obtain rfl : f = 3 := Option.some.inj ((show Tryd.prog.funcNamed "simulcast/simulcastlaw26.ClockTicks" = some 3 by kernel_rfl).symm.trans hf) |>.symm
   obtain rfl : fn = Tryd.f3 := (Option.some.inj (Tryd.func3.symm.trans hfn)).symm
   exact ⟨by kernel_rfl, fun j t ht => by
    rw [Tryd.params3] at ht
    have hm : t ∈ [2, 23, 24] := by simpa using Array.mem_of_getElem? ht
    have hall : ([2, 23, 24].all fun u => !Tryd.prog.wantsStandIn u) = true := by kernel_rfl
    exact (show Tryd.prog.wantsStandIn t = false by simpa using List.all_eq_true.1 hall t hm)⟩)
  (by kernel_rfl)
#print axioms clockTicks_card
end Go.Proofs.YtadilekaombofaaDoor
