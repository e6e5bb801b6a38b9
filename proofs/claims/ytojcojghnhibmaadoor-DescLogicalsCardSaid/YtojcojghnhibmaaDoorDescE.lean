/- Where a descriptor may lie; the walk of package desc's Field. -/
import Derived.Test.YtojcojghnhibmaaDoorDescB
namespace Go.Proofs.YtojcojghnhibmaaDoor
set_option linter.unusedSimpArgs false
set_option linter.unusedVariables false
open Go.RowKit

theorem atN_bd {t c b : Int} {p : Nat} {i more : Int} (hm : 0 ≤ more ∧ more ≤ 2) : -1 ≤ atN t c b p i more ∧ atN t c b p i more ≤ 3007 * p + 3002 := by
  unfold atN
  split
  · rename_i h
    obtain ⟨hr, h0, h1⟩ := h
    have hk := (right_lok hr).1
    have := from_bd hk p
    have := prod_bd hk p h0 h1
    omega
  · omega
theorem place_bd (t c b who : Int) : (-1 ≤ (placeN t c b who).1 ∧ (placeN t c b who).1 ≤ 30000) ∧ 0 ≤ (placeN t c b who).2 ∧ (placeN t c b who).2 ≤ 32 := by
  have h6 := atN_bd (t := t) (c := c) (b := b) (p := 6) (i := who - 9) (more := 0) (by omega)
  have h4 := atN_bd (t := t) (c := c) (b := b) (p := 4) (i := wrap64 (who - 1)) (more := 0) (by omega)
  unfold placeN
  by_cases h9 : 9 ≤ who
  · simp only [h9, if_true]
    split <;> constructor <;> simp <;> omega
  · simp only [h9, if_false]
    split <;> constructor <;> simp <;> omega

/-- Plain: the location of a part of an entry, and the error. -/
def fieldN (t c b who n part : Int) : Int × Int :=
  if checkN t c b ≠ 0 then (0, 1) else if n < 0 ∨ (placeN t c b who).2 ≤ n ∨ part < 0 ∨ 3 ≤ part then (0, 3) else ((placeN t c b who).1 + (2 + 3 * n + part), 0)

set_option maxRecDepth 100000 in
set_option maxHeartbeats 2000000 in
theorem field_any (t c b who n part : Int) (hw1 : -9223372036854775808 ≤ who) (hw2 : who ≤ 9223372036854775807) (w : World) (hs : Szs w) :
    Calls Tryd.prog 29 #[.agg #[.int .i64 t, .int .i64 c, .int .i64 b], .int .i64 who, .int .i64 n, .int .i64 part] w fun y w' => y = .returned (.tuple #[.int .i64 (fieldN t c b who n part).1, .int .i64 (fieldN t c b who n part).2]) ∧ ∃ r, w' = ext w r := by
  have HS := hid hs
  clear hs
  obtain ⟨q, hq⟩ : ∃ q, q = fieldN t c b who n part := ⟨_, rfl⟩
  have HQ := hid hq
  rw [← hq]
  clear hq
  obtain ⟨⟨hp1, hp2⟩, hp3, hp4⟩ := place_bd t c b who
  obtain ⟨⟨pa, pm⟩, hp⟩ : ∃ p, p = placeN t c b who := ⟨_, rfl⟩
  rw [← hp] at hp1 hp2 hp3 hp4
  dsimp only at hp1 hp2 hp3 hp4
  have HP := hid hp
  clear hp
  go_enter Tryd.func29, Tryd.ntmps29
  go_wp2_with fail
  go_call (check_any t c b _ (HS.out.of (by (show Ext _ _; repeat (first | with_reducible (refine Hid.out ?_; assumption) | with_reducible exact Ext.refl _ | with_reducible refine Ext.ext ?_ _ | with_reducible refine Ext.alloc ?_ _ | refine Ext.drew ?_ | refine Ext.drewN ?_ _ | exact Ext.refl _))))) as e w' ⟨rfl, r1, rfl⟩
  by_cases h1 : checkN t c b = 0
  rotate_left
  · have HR := hid (show q = (0, 1) by rw [HQ.out]; unfold fieldN; rw [if_pos h1])
    have hb : (checkN t c b != 0) = true := by simpa using h1
    clear h1
    go_wp2_with fail
    go_ret2
    exact ⟨by rw [HR.out]; rfl, by (show Ext _ _; repeat (first | with_reducible (refine Hid.out ?_; assumption) | with_reducible exact Ext.refl _ | with_reducible refine Ext.ext ?_ _ | with_reducible refine Ext.alloc ?_ _ | refine Ext.drew ?_ | refine Ext.drewN ?_ _ | exact Ext.refl _))⟩
  have H1 := hid h1
  rw [h1]
  clear h1
  go_wp2_with fail
  go_call (place_any t c b who hw1 hw2 _ (HS.out.of (by (show Ext _ _; repeat (first | with_reducible (refine Hid.out ?_; assumption) | with_reducible exact Ext.refl _ | with_reducible refine Ext.ext ?_ _ | with_reducible refine Ext.alloc ?_ _ | refine Ext.drew ?_ | refine Ext.drewN ?_ _ | exact Ext.refl _))))) as e w' ⟨rfl, r2, rfl⟩
  rw [← HP.out]
  by_cases hbad : n < 0 ∨ pm ≤ n ∨ part < 0 ∨ 3 ≤ part
  · have HR := hid (show q = (0, 3) by rw [HQ.out]; unfold fieldN; rw [if_neg (by rw [H1.out]; simp), if_pos (by rw [← HP.out]; exact hbad)])
    have hc : n < 0 ∨ (¬ n < 0 ∧ pm ≤ n) ∨ (¬ n < 0 ∧ ¬ pm ≤ n ∧ part < 0) ∨ (¬ n < 0 ∧ ¬ pm ≤ n ∧ ¬ part < 0 ∧ 3 ≤ part) := by omega
    clear hbad
    rcases hc with h | ⟨h, h'⟩ | ⟨h, h', h''⟩ | ⟨h, h', h'', h'''⟩
    all_goals
      go_wp2_with fail
      go_ret2
      exact ⟨by rw [HR.out]; rfl, by (show Ext _ _; repeat (first | with_reducible (refine Hid.out ?_; assumption) | with_reducible exact Ext.refl _ | with_reducible refine Ext.ext ?_ _ | with_reducible refine Ext.alloc ?_ _ | refine Ext.drew ?_ | refine Ext.drewN ?_ _ | exact Ext.refl _))⟩
  · have HR := hid (show q = (pa + (2 + 3 * n + part), 0) by rw [HQ.out]; unfold fieldN; rw [if_neg (by rw [H1.out]; simp), if_neg (by rw [← HP.out]; exact hbad), ← HP.out])
    have h1 : ¬ n < 0 := by omega
    have h2 : ¬ pm ≤ n := by omega
    have h3 : ¬ part < 0 := by omega
    have h4 : ¬ 3 ≤ part := by omega
    clear hbad
    go_wp2_with fail
    go_ret2
    exact ⟨by rw [HR.out]; rfl, by (show Ext _ _; repeat (first | with_reducible (refine Hid.out ?_; assumption) | with_reducible exact Ext.refl _ | with_reducible refine Ext.ext ?_ _ | with_reducible refine Ext.alloc ?_ _ | refine Ext.drew ?_ | refine Ext.drewN ?_ _ | exact Ext.refl _))⟩

end Go.Proofs.YtojcojghnhibmaaDoor
