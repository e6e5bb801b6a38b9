/- Walks of package detect: Ats; the layout of law 24. -/
import Derived.Test.YtlijgheghodfeaaDoorDescE
import Derived.Test.YtlijgheghodfeaaDoorDescJ
import Derived.Test.YtlijgheghodfeaaDoorOwn
import Derived.Laws.Cover3
namespace Go.Proofs.YtlijgheghodfeaaDoor
set_option linter.unusedSimpArgs false
set_option linter.unusedVariables false
open Go.RowKit

/-- Plain: where a thread's record begins; -1 if there is none. -/
def recN (t c b x : Int) : Int := atN t c b 2 (wrap64 (x - 1)) 0
theorem recN_bd (t c b x : Int) : -1 ≤ recN t c b x ∧ recN t c b x ≤ 30000 := by
  have := atN_bd (t := t) (c := c) (b := b) (p := 2) (i := wrap64 (x - 1)) (more := 0) (by omega)
  unfold recN; omega

theorem eql_locs (a : Option Addr) (l c : Nat) (w : World) : (binOp .eql 27 (.slice a l c) (.slice none 0 0)).run Tryd.prog w = .ok (.bool a.isNone) w := by
  simp only [binOp]
  simp [run_equal_slice_nil w _ _ a l c Tryd.underlying27]

/-- What Ats leaves: nil, or three locations. -/
def AtsPost (w : World) (p : Int) (y : Ending) (w' : World) : Prop :=
  (∃ r, w' = ext w r) ∧ ((p < 0 ∧ y = .returned (.slice none 0 0)) ∨ (0 ≤ p ∧ ∃ g, y = .returned (.slice (some ⟨g, 0, none⟩) 3 3) ∧ Blk w' g [.int .i64 p, .int .i64 (p + 1), .int .i64 (p + 2)]))

set_option maxHeartbeats 1000000 in
theorem ats_any (t c b x : Int) (w : World) (hs : Szs w) :
    Calls Tryd.prog 10 #[.agg #[.int .i64 t, .int .i64 c, .int .i64 b], .int .i64 x] w fun y w' => AtsPost w (recN t c b x) y w' := by
  have HS := hid hs
  have hbd := recN_bd t c b x
  obtain ⟨p, hp⟩ : ∃ p, p = recN t c b x := ⟨_, rfl⟩
  rw [← hp] at hbd ⊢
  have HP := hid (show atN t c b 2 (wrap64 (x - 1)) 0 = p from hp.symm)
  clear hs hp
  obtain ⟨h0, h1⟩ := hbd
  go_enter Tryd.func10, Tryd.ntmps10
  go_wp2_with fail
  refine (record_any t c b x _ (HS.out.of (by (show Ext _ _; repeat (first | with_reducible (refine Hid.out ?_; assumption) | with_reducible exact Ext.refl _ | with_reducible refine Ext.ext ?_ _ | with_reducible refine Ext.alloc ?_ _ | refine Ext.drew ?_ | refine Ext.drewN ?_ _ | exact Ext.refl _))))).mono ?_
  rintro e w' ⟨rfl, r1, rfl⟩
  rw [HP.out]
  by_cases hn : p < 0
  · go_wp2_with fail
    go_ret
    exact ⟨by (show Ext _ _; repeat (first | with_reducible (refine Hid.out ?_; assumption) | with_reducible exact Ext.refl _ | with_reducible refine Ext.ext ?_ _ | with_reducible refine Ext.alloc ?_ _ | refine Ext.drew ?_ | refine Ext.drewN ?_ _ | exact Ext.refl _)), .inl ⟨hn, rfl⟩⟩
  · have hp0 : 0 ≤ p := by omega
    have hw0 : IntKind.i64.wrap (p + 1) = p + 1 := IntWalk.i64_in _ (by omega)
    have hw1 : IntKind.i64.wrap (p + 2) = p + 2 := IntWalk.i64_in _ (by omega)
    go_wp2_with fail
    go_ret
    exact ⟨by (show Ext _ _; repeat (first | with_reducible (refine Hid.out ?_; assumption) | with_reducible exact Ext.refl _ | with_reducible refine Ext.ext ?_ _ | with_reducible refine Ext.alloc ?_ _ | refine Ext.drew ?_ | refine Ext.drewN ?_ _ | exact Ext.refl _)), .inr ⟨hp0, _, rfl, by (show Blk _ _ _; repeat (first | with_reducible (refine Hid.out ?_; assumption) | with_reducible refine Blk.drew ?_ | with_reducible refine Blk.ext ?_ _ | (with_reducible refine Blk.new _ _ rfl ?_; first | with_reducible rfl | (simp; done)) | with_reducible refine Blk.alloc ?_ _ | with_reducible assumption | with_reducible apply Blk.setE | (with_reducible refine Blk.other' ?_ ?_; first | omega | (simp; omega)) | (show List.set _ _ _ = _; exact rfl) | (show _ < List.length _; simp; done)))⟩⟩

set_option maxHeartbeats 1000000 in
theorem plan24_any (w : World) :
    Calls Tryd.prog 11 #[] w fun y w' => y = .returned (.agg #[.int .i64 3, .int .i64 8, .int .i64 0]) ∧ ∃ r, w' = ext w r := by
  go_enter Tryd.func11, Tryd.ntmps11
  (repeat (first | go_values | go_skip | go_guarded | go_step | go_upon | (simp only [Int.not_lt, Int.not_le] at *; go_simp) | (go_ite <;> go_prune <;> (try go_simp))))
  exact bodyPost_ret (v := .agg #[.int .i64 3, .int .i64 8, .int .i64 0]) (by simp [results, Tryd.results11, go_sem]) rfl ⟨rfl, by (show Ext _ _; repeat (first | with_reducible (refine Hid.out ?_; assumption) | with_reducible exact Ext.refl _ | with_reducible refine Ext.ext ?_ _ | with_reducible refine Ext.alloc ?_ _ | with_reducible refine Ext.drew ?_ | with_reducible refine Ext.setCell ?_ (by (try dsimp only); first | omega | (simp; done) | (simp; omega)) _))⟩

theorem wrap_pre24 {x : Int} (h0 : -9223372036854775808 ≤ x) (h1 : x ≤ 9223372036854775807) : (1 ≤ x ∧ wrap64 (x - 1) = x - 1) ∨ (x < 1 ∧ (wrap64 (x - 1) < 0 ∨ 9223372036854775807 ≤ wrap64 (x - 1))) := by
  by_cases h : 1 ≤ x
  · exact .inl ⟨h, IntWalk.wrap64_in _ ⟨by omega, by omega⟩⟩
  · right
    refine ⟨by omega, ?_⟩
    by_cases h2 : -9223372036854775808 ≤ x - 1
    · left; rw [IntWalk.wrap64_in _ ⟨by omega, by omega⟩]; omega
    · right
      have : x = -9223372036854775808 := by omega
      subst this
      simp [wrap64]

/-- The layout of law 24, closed facts. -/
theorem right24 : rightN 3 8 0 = true := by kernel_rfl
theorem check24 : checkN 3 8 0 = 0 := by kernel_rfl
theorem size24 : sizeN 3 8 0 = 376 := by kernel_rfl
theorem rec24 (x : Int) (h0 : -9223372036854775808 ≤ x) (h1 : x ≤ 9223372036854775807) : recN 3 8 0 x = if 1 ≤ x ∧ x ≤ 3 then 32 + (x - 1) * 8 else -1 := by
  have hf : fromN 3 8 0 2 = 32 := by kernel_rfl
  unfold recN atN
  simp only [manyN, szN]
  rcases wrap_pre24 h0 h1 with ⟨h2, h3⟩ | ⟨h2, h3⟩
  · rw [h3]
    by_cases h : 1 ≤ x ∧ x ≤ 3
    · rw [if_pos h, if_pos ⟨right24, by omega, by omega⟩, hf]; omega
    · rw [if_neg h, if_neg (by omega)]
  · rw [if_neg (by omega), if_neg (by omega)]
/-- The words of a record may be swapped. -/
theorem rec_may {t c b x : Int} (h : 0 ≤ recN t c b x) : mayN t c b (recN t c b x) = true ∧ mayN t c b (recN t c b x + 1) = true ∧ mayN t c b (recN t c b x + 2) = true ∧ recN t c b x + 3 ≤ sizeN t c b := by
  obtain ⟨hr, a0, a1, a2⟩ := at_pos (show 0 ≤ atN t c b 2 (wrap64 (x - 1)) 0 from h)
  have hk := (right_lok hr).1
  simp only [manyN, szN] at a1 a2
  have e : recN t c b x = fromN t c b 2 + wrap64 (x - 1) * 8 := by unfold recN; omega
  have m : fromN t c b 2 % 8 = 0 ∧ fromN t c b 2 + t * 8 ≤ fromN t c b 3 ∧ 0 ≤ fromN t c b 2 := by
    obtain ⟨h1, h2, h3, h4, h5, h6⟩ := hk
    simp only [fromN, longN, manyN, szN, upN]
    simp
    omega
  generalize wrap64 (x - 1) = q at *
  have h7 : fromN t c b 3 ≤ sizeN t c b := by
    have m3 : fromN t c b 3 ≤ fromN t c b 4 := from_mono hk 3
    have m4 : fromN t c b 4 ≤ fromN t c b 5 := from_mono hk 4
    have m5 : fromN t c b 5 ≤ fromN t c b 6 := from_mono hk 5
    have m6 : fromN t c b 6 ≤ fromN t c b 7 := from_mono hk 6
    unfold sizeN; rw [if_pos hr]; omega
  refine ⟨?_, ?_, ?_, by omega⟩
  all_goals
    unfold mayN
    rw [hr, Bool.true_and, Bool.or_eq_true]
    right
    rw [decide_eq_true_eq]
    omega

end Go.Proofs.YtlijgheghodfeaaDoor
