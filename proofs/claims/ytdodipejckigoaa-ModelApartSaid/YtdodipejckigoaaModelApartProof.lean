/- ModelApart (simulcastlaw18) is proved: two swaps with disjoint locations have the same results and the same final words in either order: the law returns true for every input, and its arguments read afterwards as they read before. No condition. -/
import Derived.Test.YtdodipejckigoaaApartMWalk
import Derived.Test.YtdodipejckigoaaOpen
import Derived.Test.YtdodipejckigoaaFrame
namespace Go.Proofs.Ytdodipejckigoaa
open Go.ChangeShapes Go.WideShapes Go.ChangeAt Go.RowKit

set_option maxRecDepth 100000 in
theorem modelApart_lifted (os : Os) (started : os.Started) (H : Type) (enc : TypeId × Value → H) :
    ReturnsInHanded {} Try.checked os 6 .any (Rows.modelApartSpec.pre6 enc Try.prog Try.f6 Rows.modelApartRow.domain false) (Rows.modelApartSpec.post enc Try.prog Try.f6 false true false false) := by
  refine returnsInHanded_of_change (C := Try.checked) Try.own started (by kernel_rfl) Try.func6
    (ChangeSpec.witness6 (enc := enc) (C := Try.checked) false ⟨#[], #[.slice none 0 0, .slice none 0 0, .slice none 0 0], []⟩ 8 (by kernel_rfl) (by kernel_rfl) (by kernel_rfl) (by kernel_rfl)) ?_
  intro W base args ds gs before hval0 hW _ _
  have hval : ∀ (j : Nat) t v, Try.f6.params[j]? = some t → args[j]? = some v → Value.okWide Try.prog W .any base t v := hval0
  have hW' := hW
  obtain ⟨p, q, hA0, hV, rfl, hfz, hnd⟩ := hW
  have hA : DataW.TrodAll enc Try.prog W 0 (fun _ => true) true Try.f6.params.toList args.toList ds p := hA0
  rw [Try.params6] at hA hval
  obtain ⟨v0, v1, v2, d0, d1, d2, p0, p1, p2, rfl, rfl, rfl, h0, h1, h2⟩ := trodAll_three hA
  obtain ⟨rfl, rfl⟩ := trodVars_none hV
  obtain ⟨l0, s0, k0⟩ := open_words (hval 0 _ v0 rfl rfl) h0
  obtain ⟨l1, s1, k1⟩ := open_entries (hval 1 _ v1 rfl rfl) h1
  obtain ⟨l2, s2, k2⟩ := open_entries (hval 2 _ v2 rfl rfl) h2
  clear hA0 hval0
  refine (lapartm_any W l0 v0 s0 k0 l1 v1 s1 k1 l2 v2 s2 k2).mono fun e W' ⟨he, hE⟩ => ?_
  refine ⟨_, he, law_post _ Rows.modelApartSpec rfl rfl rfl hW' rfl rfl rfl ?_ hE⟩
  rw [Try.params6]
  intro t ht
  simp only [List.mem_cons, List.not_mem_nil, or_false] at ht
  rcases ht with rfl | rfl | rfl
  all_goals exact ⟨by kernel_rfl, of_decide_eq_true (by kernel_rfl)⟩

theorem modelApart_row : Rows.ModelApartSaid :=
  OpenClaim.holds_of_wide 6 Try.f6 rfl rfl rfl rfl rfl rfl rfl ⟨rfl, rfl, rfl, rfl, rfl⟩ rfl rfl rfl rfl rfl (by kernel_rfl) Try.func6 (by kernel_rfl)
    (of_decide_eq_true (by kernel_rfl)) (by unfold Func.isWrapper; first | (rw [if_pos (by decide +kernel)]; kernel_rfl) | (rw [if_neg (by decide +kernel)]; exact ⟨rfl, rfl⟩))
    (fun os started H enc _ => modelApart_lifted os started H enc)
#print axioms modelApart_row

end Go.Proofs.Ytdodipejckigoaa
