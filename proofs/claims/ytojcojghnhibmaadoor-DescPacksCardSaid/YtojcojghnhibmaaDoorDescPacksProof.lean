/- DescPacks (simulcastlaw19) is proved: Pack and Unpack agree with the reference and are inverse to each other up to the Ref field of Old: the law returns true for every input, and its arguments read afterwards as they read before. The listed table layout.sizes is tied to the program's text by the given tie. No other condition. -/
import Derived.Test.YtojcojghnhibmaaDoorPacksWalk
import Derived.Test.YtojcojghnhibmaaDoorLayFrame
import Derived.Test.YtojcojghnhibmaaDoorArgs
import Derived.Test.YtojcojghnhibmaaDoorCards
import Derived.Test.YtojcojghnhibmaaDoorTie
namespace Go.Proofs.YtojcojghnhibmaaDoor
open Go.ChangeShapes Go.WideShapes Go.ChangeAt Go.WideMaps Go.WideElems Go.RowKit Go.Joins

set_option maxRecDepth 100000 in
theorem descPacks_lifted (os : Os) (started : os.Started) (H : Type) (enc : TypeId × Value → H) :
    ReturnsInHanded {} Tryd.checked os 4 .any (fun w args => (Rows.descPacksSpec.pre enc Tryd.prog Tryd.f4 [] false w args ∧ laidMetH Tryd.prog layLaid w) ∧ sizedMet enc Tryd.prog Tryd.f4 (OpenSpec.ofChange Rows.descPacksSpec) false w args)
      (Rows.descPacksSpec.post enc Tryd.prog Tryd.f4 false true false false) := by
  refine returnsInHanded_of_change_and (C := Tryd.checked) (X := fun w _ => laidMetH Tryd.prog layLaid w) (fun _ _ _ hh h => h.of_heap hh) Tryd.own started (by kernel_rfl) Tryd.func4
    (ChangeSpec.witness_shaped (enc := enc) (C := Tryd.checked) (os := os) (X := fun w _ => laidMetH Tryd.prog layLaid w) false (World.doorLaid Tryd.prog 200 os) #[.agg #[.int .i64 0, .int .i64 0, .int .u32 0, .int .u32 0, .int .i64 0, .bool false], .agg #[.int .i64 0, .int .u32 0, .int .u32 0, .int .i64 0, .int .u32 0, .int .u32 0, .int .i64 0, .int .u32 0, .int .u32 0]] 8 rfl (World.shaped_of_RefB (by kernel_rfl) (by kernel_rfl)) (by kernel_rfl) (by kernel_rfl) (by kernel_rfl) (lay_met os _)) ?_
  intro W base args ds gs before hval0 hW _ _ hL _
  have hval : ∀ (j : Nat) t v, Tryd.f4.params[j]? = some t → args[j]? = some v → Value.okWide Tryd.prog W .any base t v := hval0
  have hW' := hW
  obtain ⟨p, q, hA0, hV, rfl, hfz, hnd⟩ := hW
  have hA : DataW.TrodAll enc Tryd.prog W 0 (fun _ => true) true Tryd.f4.params.toList args.toList ds p := hA0
  rw [Tryd.params4] at hA hval
  obtain ⟨v0, v1, d0, d1, p0, p1, rfl, rfl, rfl, h0, h1⟩ := trodAll_two hA
  obtain ⟨rfl, rfl⟩ := trodVars_none hV
  obtain ⟨e, oke, rfl⟩ := open_entry (hval 0 _ v0 rfl rfl) h0
  obtain ⟨qx, qy, qz, okqx, okqy, okqz, rfl⟩ := open_words3 (hval 1 _ v1 rfl rfl) h1
  have hs := szs_of_laid hL
  clear hA0 hval0
  refine (packs_any e.loc e.val e.ver e.ref e.new e.wr qx.1 qx.2.1 qx.2.2 qy.1 qy.2.1 qy.2.2 qz.1 qz.2.1 qz.2.2 okqx.2.1.1 W hs).mono fun e W' ⟨he, hE⟩ => ?_
  refine ⟨_, he, law_post _ Rows.descPacksSpec rfl rfl rfl hW' rfl rfl rfl ?_ hE⟩
  rw [Tryd.params4]
  intro t ht
  simp only [List.mem_cons, List.not_mem_nil, or_false] at ht
  rcases ht with rfl | rfl
  all_goals exact ⟨by kernel_rfl, of_decide_eq_true (by kernel_rfl)⟩

theorem descPacks_row : Rows.DescPacksSaid :=
  OpenClaim.holds_of_wide 4 Tryd.f4 rfl rfl rfl rfl rfl rfl rfl ⟨rfl, rfl, rfl, rfl, rfl⟩ rfl rfl rfl rfl rfl (by kernel_rfl) Tryd.func4 (by kernel_rfl)
    (of_decide_eq_true (by kernel_rfl)) (by unfold Func.isWrapper; first | (rw [if_pos (by decide +kernel)]; kernel_rfl) | (rw [if_neg (by decide +kernel)]; exact ⟨rfl, rfl⟩))
    (fun os started H enc _ => descPacks_lifted os started H enc)

theorem descPacks_card : Rows.DescPacksCardSaid :=
  Claim7.holds_tied_plain_at .later [] [.data] true Rows.descPacksCard.stood.harness false
    descPacks_row (fun _ h => by cases h) (by kernel_rfl) (fun _ h => by cases h) descPacks_row_tie rfl ⟨rfl, rfl⟩ (by kernel_rfl) rfl
    (fun f fn hf hfn => by
      obtain rfl : f = 4 := Option.some.inj ((show Tryd.prog.funcNamed "simulcast/simulcastlaw19.DescPacks" = some 4 by kernel_rfl).symm.trans hf) |>.symm
      obtain rfl : fn = Tryd.f4 := (Option.some.inj (Tryd.func4.symm.trans hfn)).symm
      exact ⟨by kernel_rfl, fun j t ht => by
        rw [Tryd.params4] at ht
        have hm : t ∈ [57, 58] := by simpa using Array.mem_of_getElem? ht
        have hall : ([57, 58].all fun u => !Tryd.prog.wantsStandIn u) = true := by kernel_rfl
        exact (show Tryd.prog.wantsStandIn t = false by simpa using List.all_eq_true.1 hall t hm)⟩)
    (by kernel_rfl)
#print axioms descPacks_card

end Go.Proofs.YtojcojghnhibmaaDoor
