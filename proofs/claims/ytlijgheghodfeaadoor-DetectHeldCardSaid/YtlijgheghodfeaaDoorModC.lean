/- The walk of package model's Holds. -/
import Derived.Test.YtlijgheghodfeaaDoorModB
namespace Go.Proofs.YtlijgheghodfeaaDoor
set_option linter.unusedSimpArgs false
set_option linter.unusedVariables false
open Go.RowKit

theorem holdsB_at {l : List Wd} {es : List En} {j : Nat} {e : En} (h : es[j]? = some e) : holdsB l (es.drop j) = (met l e && holdsB l (es.drop (j + 1))) := by
  obtain ⟨hj, hk⟩ := List.getElem?_eq_some_iff.1 h
  rw [List.drop_eq_getElem_cons hj, hk]
  rfl

set_option maxHeartbeats 1000000 in
theorem holds_any (l : List Wd) (es : List En) (v ve : Value) (w : World) (hv : Wsl w v l) (he : Es w ve es) :
    Calls Tryd.prog 43 #[.agg #[v], ve] w fun y w' => y = .returned (.bool (holdsB l es)) ∧ ∃ r, w' = ext w r := by
  have HV := hid hv
  have HE := hid he
  have hek := neq_word
  have heg := eq_guard_word
  obtain ⟨a, c, rfl, ⟨hm, hlc⟩, _⟩ := he
  have H0 := hid (show holdsB l es = holdsB l (es.drop 0) from rfl)
  clear hv
  go_enter Tryd.func43, Tryd.ntmps43
  go_wp2_with fail
  go_loopw [11] (fun i wr => ∃ j : Nat, j ≤ es.length ∧ i = .int .i64 j ∧ Hid (holdsB l es = holdsB l (es.drop j)) ∧ ∃ r, wr = ext (w.alloc (.cells #[v] 65)) r) (fun i _ => es.length - (intOf i).toNat)
  case atStart => exact ⟨0, by omega, rfl, H0, by (show Ext _ _; repeat (first | with_reducible (refine Hid.out ?_; assumption) | with_reducible exact Ext.refl _ | with_reducible refine Ext.ext ?_ _ | with_reducible refine Ext.alloc ?_ _ | refine Ext.drew ?_ | refine Ext.drewN ?_ _ | exact Ext.refl _))⟩
  case round =>
    clear H0
    obtain ⟨j, hj, rfl, H0, r, rfl⟩ := hrel
    by_cases hjl : j < es.length
    · have hd : decide (j < es.length) = true := decide_eq_true hjl
      obtain ⟨hnl, b, o, hab, hbl, hcs⟩ := Sl.at HE.out (List.getElem?_eq_getElem hjl)
      have HX := hid (List.getElem?_eq_getElem hjl)
      generalize es[j] = e at hcs HX
      have HA := hid (holdsB_at (l := l) HX.out)
      subst hab
      have c0 := hcs 0 (by omega)
      have c1 := hcs 1 (by omega)
      have c2 := hcs 2 (by omega)
      have c3 := hcs 3 (by omega)
      have c4 := hcs 4 (by omega)
      have c5 := hcs 5 (by omega)
      simp [enE] at c0 c1 c2 c3 c4 c5
      clear hcs hnl
      obtain ⟨q, hq⟩ : ∃ q, q = atW l e.loc := ⟨_, rfl⟩
      obtain ⟨⟨x1, x2, x3⟩, ok⟩ := q
      have HQ := hid hq
      clear hq
      cases ok
      · have HN := hid (show holdsB l es = false by rw [H0.out, HA.out, met, ← HQ.out]; rfl)
        clear HA H0
        go_wp2_with fail
        go_call (mat_any l _ e.loc _ (HV.out.of wdE_len (by (show Ext _ _; repeat (first | with_reducible (refine Hid.out ?_; assumption) | with_reducible exact Ext.refl _ | with_reducible refine Ext.ext ?_ _ | with_reducible refine Ext.alloc ?_ _ | refine Ext.drew ?_ | refine Ext.drewN ?_ _ | exact Ext.refl _))))) as y w' ⟨rfl, r2, rfl⟩
        rw [← HQ.out]
        go_wp2_with fail
        go_ret
        exact ⟨ret_bool HN.out.symm, by (show Ext _ _; repeat (first | with_reducible (refine Hid.out ?_; assumption) | with_reducible exact Ext.refl _ | with_reducible refine Ext.ext ?_ _ | with_reducible refine Ext.alloc ?_ _ | refine Ext.drew ?_ | refine Ext.drewN ?_ _ | exact Ext.refl _))⟩
      · cases hb : wdB (x1, x2, x3) (e.val, e.ver, 0)
        · have HN := hid (show holdsB l es = false by rw [H0.out, HA.out, met, ← HQ.out]; simp [hb])
          clear HA H0
          go_wp2_with fail
          go_call (mat_any l _ e.loc _ (HV.out.of wdE_len (by (show Ext _ _; repeat (first | with_reducible (refine Hid.out ?_; assumption) | with_reducible exact Ext.refl _ | with_reducible refine Ext.ext ?_ _ | with_reducible refine Ext.alloc ?_ _ | refine Ext.drew ?_ | refine Ext.drewN ?_ _ | exact Ext.refl _))))) as y w' ⟨rfl, r2, rfl⟩
          rw [← HQ.out]
          go_wp2_with fail
          go_ret
          exact ⟨ret_bool HN.out.symm, by (show Ext _ _; repeat (first | with_reducible (refine Hid.out ?_; assumption) | with_reducible exact Ext.refl _ | with_reducible refine Ext.ext ?_ _ | with_reducible refine Ext.alloc ?_ _ | refine Ext.drew ?_ | refine Ext.drewN ?_ _ | exact Ext.refl _))⟩
        · have HN := hid (show holdsB l es = holdsB l (es.drop (j + 1)) by rw [H0.out, HA.out, met, ← HQ.out]; simp [hb])
          clear HA H0
          go_wp2_with fail
          go_call (mat_any l _ e.loc _ (HV.out.of wdE_len (by (show Ext _ _; repeat (first | with_reducible (refine Hid.out ?_; assumption) | with_reducible exact Ext.refl _ | with_reducible refine Ext.ext ?_ _ | with_reducible refine Ext.alloc ?_ _ | refine Ext.drew ?_ | refine Ext.drewN ?_ _ | exact Ext.refl _))))) as y w' ⟨rfl, r2, rfl⟩
          rw [← HQ.out]
          go_wp2_with fail
          go_roundw
          case rel => exact ⟨j + 1, by omega, by go_num, HN, by (show Ext _ _; repeat (first | with_reducible (refine Hid.out ?_; assumption) | with_reducible exact Ext.refl _ | with_reducible refine Ext.ext ?_ _ | with_reducible refine Ext.alloc ?_ _ | refine Ext.drew ?_ | refine Ext.drewN ?_ _ | exact Ext.refl _))⟩
          case measure => simp [intOf]; omega
    · have hd : decide (j < es.length) = false := decide_eq_false hjl
      have HN := hid (show holdsB l es = true by rw [H0.out, List.drop_eq_nil_of_le (by omega)]; rfl)
      clear H0
      go_wp2_with fail
      go_ret
      exact ⟨ret_bool HN.out.symm, by (show Ext _ _; repeat (first | with_reducible (refine Hid.out ?_; assumption) | with_reducible exact Ext.refl _ | with_reducible refine Ext.ext ?_ _ | with_reducible refine Ext.alloc ?_ _ | refine Ext.drew ?_ | refine Ext.drewN ?_ _ | exact Ext.refl _))⟩

end Go.Proofs.YtlijgheghodfeaaDoor
