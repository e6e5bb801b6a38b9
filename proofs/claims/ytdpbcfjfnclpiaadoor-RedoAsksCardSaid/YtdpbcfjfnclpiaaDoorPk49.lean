/- An argument opened: a list of results ([]api.Got). RedoAsks (simulcastlaw25) is proved: for every sequence of results fed to the recovery code, it issues exactly the specified acts, is done when specified, and earlier codes remain unchanged: the law returns true for every input, and its arguments read afterwards as they read before. The listed table layout.sizes is tied to the program's text by the given tie. No other condition. -/
import Derived.Test.YtdpbcfjfnclpiaaDoorPk11
import Derived.Test.YtdpbcfjfnclpiaaDoorPk29
import Derived.Test.YtdpbcfjfnclpiaaDoorPk48
import Derived.Test.YtdpbcfjfnclpiaaDoorPk26
import Derived.Test.YtdpbcfjfnclpiaaDoorCards
import Derived.Test.YtdpbcfjfnclpiaaDoorTie
namespace Go.Proofs.YtdpbcfjfnclpiaaDoor
set_option linter.unusedSimpArgs false
set_option linter.unusedVariables false
open Go.ChangeShapes Go.WideShapes Go.RowKit Go.Deep Go.Joins
section
variable {H : Type} {enc : TypeId × Value → H} {w : World} {base : Nat} {spare : Nat → Bool} {held : Bool}
set_option maxRecDepth 100000 in
theorem got_of_trod (n : Nat) (cs : List Value) (x : DataW H × List MemPlace) (h : DataW.trod enc Tryd.prog w base spare held n 50 cs = some x) : ∃ a : Gt, WdOk a.1 ∧ cs = gtE a := by
 obtain ⟨y0, y1, n', -, hl, h0, h1⟩ := trod_struct2 Tryd.underlying50 h
 have hl4 : cs.length = 4 := hl
 match cs, hl4 with
 | [c0, c1, c2, c3], _ =>
  obtain ⟨⟨b0, b1, b2⟩, hw, eb⟩ := word_of_trod _ _ _ h0
  obtain ⟨a3, e3, -⟩ := DataW.trod_bool Tryd.underlying4 h1
  cases eb
  cases e3
  exact ⟨((b0, b1, b2), a3), hw, rfl⟩
set_option maxRecDepth 100000 in
theorem open_gots {r : Reach} {b0 : Nat} {v : Value} {d : DataW H} {p : List MemPlace} (hv : Value.okWide Tryd.prog w r b0 22 v) (h : DataW.Trod enc Tryd.prog w base spare held 22 v d p) : ∃ l : List Gt, Sl w 4 gtE v l ∧ ∀ a ∈ l, WdOk a.1 := by
 obtain ⟨a, n, c, rfl⟩ := okWide_slice Tryd.underlying22 hv
 obtain ⟨fuel, hf⟩ := h
 obtain ⟨v', l, hv', hs, hk⟩ := sl_of_trod (en := gtE) (Ok := fun a : Gt => WdOk a.1) Tryd.underlying22 (by kernel_rfl) (by omega) gtE_len got_of_trod hf
 cases hv'
 exact ⟨l, hs, hk⟩
end
end Go.Proofs.YtdpbcfjfnclpiaaDoor
namespace Go.Proofs.YtdpbcfjfnclpiaaDoor
set_option linter.unusedSimpArgs false
set_option linter.unusedVariables false
open Go.ChangeShapes Go.WideShapes Go.ChangeAt Go.WideMaps Go.WideElems Go.RowKit Go.Joins
set_option maxRecDepth 100000 in
theorem redoAsks_lifted (os : Os) (started : os.Started) (H : Type) (enc : TypeId × Value → H) :
 ReturnsInHanded {} Tryd.checked os 3 .any (fun w args => (Rows.redoAsksSpec.pre enc Tryd.prog Tryd.f3 [] false w args ∧ laidMetH Tryd.prog layLaid w) ∧ sizedMet enc Tryd.prog Tryd.f3 (OpenSpec.ofChange Rows.redoAsksSpec) false w args)
  (Rows.redoAsksSpec.post enc Tryd.prog Tryd.f3 false true false false) := by
 refine returnsInHanded_of_change_and (C := Tryd.checked) (X := fun w _ => laidMetH Tryd.prog layLaid w) (fun _ _ _ hh h => h.of_heap hh) Tryd.own started (by kernel_rfl) Tryd.func3
  (ChangeSpec.witness_shaped (enc := enc) (C := Tryd.checked) (os := os) (X := fun w _ => laidMetH Tryd.prog layLaid w) false (World.doorLaid Tryd.prog 200 os) #[.slice none 0 0] 8 rfl (World.shaped_of_RefB (by kernel_rfl) (by kernel_rfl)) (by kernel_rfl) (by kernel_rfl) (by kernel_rfl) (lay_met os _)) ?_
 intro W base args ds gs before hval0 hW _ _ hL _
 have hval : ∀ (j : Nat) t v, Tryd.f3.params[j]? = some t → args[j]? = some v → Value.okWide Tryd.prog W .any base t v := hval0
 have hW' := hW
 obtain ⟨p, q, hA0, hV, rfl, hfz, hnd⟩ := hW
 have hA : DataW.TrodAll enc Tryd.prog W 0 (fun _ => true) true Tryd.f3.params.toList args.toList ds p := hA0
 rw [Tryd.params3] at hA hval
 obtain ⟨v0, d0, rfl, rfl, h0⟩ := trodAll_one hA
 obtain ⟨rfl, rfl⟩ := trodVars_none hV
 obtain ⟨g, slg, okg⟩ := open_gots (hval 0 _ v0 rfl rfl) h0
 have hs := szs_of_laid hL
 clear hA0 hval0
 refine (reda_any v0 g W hs slg okg).mono fun e W' ⟨he, hE⟩ => ?_
 refine ⟨_, he, law_post _ Rows.redoAsksSpec rfl rfl rfl hW' rfl rfl rfl ?_ hE⟩
 rw [Tryd.params3]
 intro t ht
 simp only [List.mem_cons, List.not_mem_nil, or_false] at ht
 rcases ht with rfl
 all_goals exact ⟨by kernel_rfl, of_decide_eq_true (by kernel_rfl)⟩
theorem redoAsks_row : Rows.RedoAsksSaid :=
 OpenClaim.holds_of_wide 3 Tryd.f3 rfl rfl rfl rfl rfl rfl rfl ⟨rfl, rfl, rfl, rfl, rfl⟩ rfl rfl rfl rfl rfl (by kernel_rfl) Tryd.func3 (by kernel_rfl)
  (of_decide_eq_true (by kernel_rfl)) (by unfold Func.isWrapper; first | (rw [if_pos (by decide +kernel)]; kernel_rfl) | (rw [if_neg (by decide +kernel)]; exact ⟨rfl, rfl⟩))
  (fun os started H enc _ => redoAsks_lifted os started H enc)
theorem redoAsks_card : Rows.RedoAsksCardSaid :=
 Claim7.holds_tied_plain_at .later [] [.data] true Rows.redoAsksCard.stood.harness true
  redoAsks_row (fun _ h => by cases h) (by kernel_rfl) (fun _ h => by cases h) redoAsks_row_tie rfl ⟨rfl, rfl⟩ (by kernel_rfl) rfl
  (fun f fn hf hfn => by
   obtain rfl : f = 3 := Option.some.inj ((show Tryd.prog.funcNamed "simulcast/simulcastlaw25.RedoAsks" = some 3 by kernel_rfl).symm.trans hf) |>.symm
   obtain rfl : fn = Tryd.f3 := (Option.some.inj (Tryd.func3.symm.trans hfn)).symm
   exact ⟨by kernel_rfl, fun j t ht => by
    rw [Tryd.params3] at ht
    have hm : t ∈ [22] := by simpa using Array.mem_of_getElem? ht
    have hall : ([22].all fun u => !Tryd.prog.wantsStandIn u) = true := by kernel_rfl
    exact (show Tryd.prog.wantsStandIn t = false by simpa using List.all_eq_true.1 hall t hm)⟩)
  (by kernel_rfl)
#print axioms redoAsks_card
end Go.Proofs.YtdpbcfjfnclpiaaDoor
