/- RedoWords (simulcastlaw25) is proved: Words and Clean agree with the reference, and Words fails if the layout is invalid or there are too few words: the law returns true for every input, and its arguments read afterwards as they read before. The listed table layout.sizes is tied to the program's text by the given tie. No other condition. -/
import Derived.Test.YtfijnpfhffhffaaDoorRedWWalk
import Derived.Test.YtfijnpfhffhffaaDoorLayFrame
import Derived.Test.YtfijnpfhffhffaaDoorArgsC
import Derived.Test.YtfijnpfhffhffaaDoorCards
import Derived.Test.YtfijnpfhffhffaaDoorTie
namespace Go.Proofs.YtfijnpfhffhffaaDoor
set_option linter.unusedSimpArgs false
set_option linter.unusedVariables false
open Go.ChangeShapes Go.WideShapes Go.ChangeAt Go.WideMaps Go.WideElems Go.RowKit Go.Joins

set_option maxRecDepth 100000 in
theorem redoWords_lifted (os : Os) (started : os.Started) (H : Type) (enc : TypeId × Value → H) :
    ReturnsInHanded {} Tryd.checked os 3 .any (fun w args => (Rows.redoWordsSpec.pre enc Tryd.prog Tryd.f3 [] false w args ∧ laidMetH Tryd.prog layLaid w) ∧ sizedMet enc Tryd.prog Tryd.f3 (OpenSpec.ofChange Rows.redoWordsSpec) false w args)
      (Rows.redoWordsSpec.post enc Tryd.prog Tryd.f3 false true false false) := by
  refine returnsInHanded_of_change_and (C := Tryd.checked) (X := fun w _ => laidMetH Tryd.prog layLaid w) (fun _ _ _ hh h => h.of_heap hh) Tryd.own started (by kernel_rfl) Tryd.func3
    (ChangeSpec.witness_shaped (enc := enc) (C := Tryd.checked) (os := os) (X := fun w _ => laidMetH Tryd.prog layLaid w) false (World.doorLaid Tryd.prog 200 os) #[.agg #[.int .i8 0, .int .i8 0, .int .i8 0, .int .i8 0, .int .i8 0, .int .i8 0, .int .u8 0, .int .u8 0, .int .u8 0, .int .u8 0, .int .u8 0, .int .u8 0, .slice none 0 0, .bool false, .bool false, .bool false, .int .u8 0, .int .u8 0, .int .u8 0, .int .i8 0, .int .i8 0, .int .i8 0, .int .i8 0, .int .i8 0, .int .i8 0, .slice none 0 0, .slice none 0 0], .int .u16 0] 8 rfl (World.shaped_of_RefB (by kernel_rfl) (by kernel_rfl)) (by kernel_rfl) (by kernel_rfl) (by kernel_rfl) (lay_met os _)) ?_
  intro W base args ds gs before hval0 hW _ _ hL _
  have hval : ∀ (j : Nat) t v, Tryd.f3.params[j]? = some t → args[j]? = some v → Value.okWide Tryd.prog W .any base t v := hval0
  have hW' := hW
  obtain ⟨p, q, hA0, hV, rfl, hfz, hnd⟩ := hW
  have hA : DataW.TrodAll enc Tryd.prog W 0 (fun _ => true) true Tryd.f3.params.toList args.toList ds p := hA0
  rw [Tryd.params3] at hA hval
  obtain ⟨v0, v1, d0, d1, p0, p1, rfl, rfl, rfl, h0, h1⟩ := trodAll_two hA
  obtain ⟨rfl, rfl⟩ := trodVars_none hV
  obtain ⟨va, vb, sv, sw, ob, st, ow, av, nv, la, ln, rfl, hva, hvb, oa, obb, hsv, hsw, hob, hst, how, ost, oow, sav, oav, snv, onv⟩ := open_case25 (hval 0 _ v0 rfl rfl) h0
  obtain ⟨cut, rfl, rfl, rfl, wcut⟩ := open_int Tryd.underlying34 (hval 1 _ v1 rfl rfl) h1
  have hs := szs_of_laid hL
  clear hA0 hval0
  refine (redw_any va vb sv sw ob st ow av nv la ln hva hvb oa obb hob hst how ost oow oav onv cut (wf_u16 wcut) W hs hsv hsw sav snv).mono fun e W' ⟨he, hE⟩ => ?_
  refine ⟨_, he, law_post _ Rows.redoWordsSpec rfl rfl rfl hW' rfl rfl rfl ?_ hE⟩
  rw [Tryd.params3]
  intro t ht
  simp only [List.mem_cons, List.not_mem_nil, or_false] at ht
  rcases ht with rfl | rfl
  all_goals exact ⟨by kernel_rfl, of_decide_eq_true (by kernel_rfl)⟩

theorem redoWords_row : Rows.RedoWordsSaid :=
  OpenClaim.holds_of_wide 3 Tryd.f3 rfl rfl rfl rfl rfl rfl rfl ⟨rfl, rfl, rfl, rfl, rfl⟩ rfl rfl rfl rfl rfl (by kernel_rfl) Tryd.func3 (by kernel_rfl)
    (of_decide_eq_true (by kernel_rfl)) (by unfold Func.isWrapper; first | (rw [if_pos (by decide +kernel)]; kernel_rfl) | (rw [if_neg (by decide +kernel)]; exact ⟨rfl, rfl⟩))
    (fun os started H enc _ => redoWords_lifted os started H enc)

theorem redoWords_card : Rows.RedoWordsCardSaid :=
  Claim7.holds_tied_plain_at .later [] [.data] true Rows.redoWordsCard.stood.harness true
    redoWords_row (fun _ h => by cases h) (by kernel_rfl) (fun _ h => by cases h) redoWords_row_tie rfl ⟨rfl, rfl⟩ (by kernel_rfl) rfl
    (fun f fn hf hfn => by
      obtain rfl : f = 3 := Option.some.inj ((show Tryd.prog.funcNamed "simulcast/simulcastlaw25.RedoWords" = some 3 by kernel_rfl).symm.trans hf) |>.symm
      obtain rfl : fn = Tryd.f3 := (Option.some.inj (Tryd.func3.symm.trans hfn)).symm
      exact ⟨by kernel_rfl, fun j t ht => by
        rw [Tryd.params3] at ht
        have hm : t ∈ [33, 34] := by simpa using Array.mem_of_getElem? ht
        have hall : ([33, 34].all fun u => !Tryd.prog.wantsStandIn u) = true := by kernel_rfl
        exact (show Tryd.prog.wantsStandIn t = false by simpa using List.all_eq_true.1 hall t hm)⟩)
    (by kernel_rfl)
#print axioms redoWords_card

end Go.Proofs.YtfijnpfhffhffaaDoor
