/- ModelSwaps (simulcastlaw18) is proved: a sequence of swaps produces the words, results and errors of the reference, and earlier models are unchanged: the law returns true for every input, and its arguments read afterwards as they read before. No condition. -/
import Derived.Test.YtdodipejckigoaaSwapsWalk
import Derived.Test.YtdodipejckigoaaOpen
import Derived.Test.YtdodipejckigoaaFrame
namespace Go.Proofs.Ytdodipejckigoaa
open Go.ChangeShapes Go.WideShapes Go.ChangeAt Go.RowKit

set_option maxRecDepth 100000 in
theorem modelSwaps_lifted (os : Os) (started : os.Started) (H : Type) (enc : TypeId × Value → H) :
    ReturnsInHanded {} Try.checked os 3 .any (Rows.modelSwapsSpec.pre6 enc Try.prog Try.f3 Rows.modelSwapsRow.domain false) (Rows.modelSwapsSpec.post enc Try.prog Try.f3 false true false false) := by
  refine returnsInHanded_of_change (C := Try.checked) Try.own started (by kernel_rfl) Try.func3
    (ChangeSpec.witness6 (enc := enc) (C := Try.checked) false ⟨#[], #[.slice none 0 0, .slice none 0 0], []⟩ 8 (by kernel_rfl) (by kernel_rfl) (by kernel_rfl) (by kernel_rfl)) ?_
  intro W base args ds gs before hval0 hW _ _
  have hval : ∀ (j : Nat) t v, Try.f3.params[j]? = some t → args[j]? = some v → Value.okWide Try.prog W .any base t v := hval0
  have hW' := hW
  obtain ⟨p, q, hA0, hV, rfl, hfz, hnd⟩ := hW
  have hA : DataW.TrodAll enc Try.prog W 0 (fun _ => true) true Try.f3.params.toList args.toList ds p := hA0
  rw [Try.params3] at hA hval
  obtain ⟨v0, v1, d0, d1, p0, p1, rfl, rfl, rfl, h0, h1⟩ := trodAll_two hA
  obtain ⟨rfl, rfl⟩ := trodVars_none hV
  obtain ⟨l0, s0, k0⟩ := open_words (hval 0 _ v0 rfl rfl) h0
  obtain ⟨l1, s1, k1⟩ := open_rows (hval 1 _ v1 rfl rfl) h1
  clear hA0 hval0
  refine (lswaps_any W l0 v0 s0 k0 l1 v1 s1 k1).mono fun e W' ⟨he, hE⟩ => ?_
  refine ⟨_, he, law_post _ Rows.modelSwapsSpec rfl rfl rfl hW' rfl rfl rfl ?_ hE⟩
  rw [Try.params3]
  intro t ht
  simp only [List.mem_cons, List.not_mem_nil, or_false] at ht
  rcases ht with rfl | rfl
  all_goals exact ⟨by kernel_rfl, of_decide_eq_true (by kernel_rfl)⟩

theorem modelSwaps_row : Rows.ModelSwapsSaid :=
  OpenClaim.holds_of_wide 3 Try.f3 rfl rfl rfl rfl rfl rfl rfl ⟨rfl, rfl, rfl, rfl, rfl⟩ rfl rfl rfl rfl rfl (by kernel_rfl) Try.func3 (by kernel_rfl)
    (of_decide_eq_true (by kernel_rfl)) (by unfold Func.isWrapper; first | (rw [if_pos (by decide +kernel)]; kernel_rfl) | (rw [if_neg (by decide +kernel)]; exact ⟨rfl, rfl⟩))
    (fun os started H enc _ => modelSwaps_lifted os started H enc)
#print axioms modelSwaps_row

end Go.Proofs.Ytdodipejckigoaa
