/- Walks of package desc: check, Field, Words. -/
import Derived.Test.YtfijnpfhffhffaaDoorDescA
namespace Go.Proofs.YtfijnpfhffhffaaDoor
set_option linter.unusedSimpArgs false
set_option linter.unusedVariables false
open Go.RowKit

theorem checkGo_wrong : ∀ (l pre : List En), checkGo pre l = 0 → ∀ x ∈ l, wrongN x = 0
  | [], _, _ => by simp
  | x :: r, pre, h => by
    unfold checkGo at h
    split at h
    · rename_i hw; exact absurd h hw
    · rename_i hw
      split at h
      · cases h
      · intro y hy
        rcases List.mem_cons.1 hy with rfl | hy
        · simpa using hw
        · exact checkGo_wrong r (pre ++ [x]) h y hy
theorem check_loc {l : List En} (h : checkE l = 0) : (∀ x ∈ l, 0 ≤ x.loc ∧ x.loc ≤ 4095) ∧ 1 ≤ l.length ∧ l.length ≤ 32 := by
  unfold checkE at h
  split at h
  · cases h
  · split at h
    · cases h
    · refine ⟨fun x hx => ?_, by omega, by omega⟩
      have hw := checkGo_wrong l [] h x hx
      unfold wrongN at hw
      split at hw
      · cases hw
      · omega

/-- Plain: may all the entries' locations be reached? -/
def mayAll (t c b : Int) (es : List En) : Bool := es.all (fun e => mayN t c b e.loc)
theorem mayAll_at {t c b : Int} {es : List En} {j : Nat} {e : En} (h : es[j]? = some e) : mayAll t c b (es.drop j) = (mayN t c b e.loc && mayAll t c b (es.drop (j + 1))) := by
  obtain ⟨hj, hk⟩ := List.getElem?_eq_some_iff.1 h
  rw [List.drop_eq_getElem_cons hj, hk]
  rfl
/-- Plain: the error of a descriptor. -/
def dcheckN (t c b who seq st : Int) (es : List En) : Int :=
  if checkN t c b ≠ 0 then 1 else if (placeN t c b who).2 = 0 then 3 else if seq < 1 ∨ 16777215 < seq then 3 else if st < 0 ∨ 3 < st then 2 else if checkE es ≠ 0 then checkE es
  else if sortB es = false then 12 else if mayAll t c b es = false then 10 else if (placeN t c b who).2 < (es.length : Int) then 15 else 0

set_option maxRecDepth 100000 in
set_option maxHeartbeats 2000000 in
theorem dcheck_any (t c b who seq st : Int) (hw1 : -9223372036854775808 ≤ who) (hw2 : who ≤ 9223372036854775807) (es : List En) (v : Value) (hok : ∀ e ∈ es, EnOk e) (w : World) (hs : Szs w) (hv : Es w v es) :
    Calls Tryd.prog 49 #[.agg #[.int .i64 who, .int .i64 seq, .int .i64 st, v], .agg #[.int .i64 t, .int .i64 c, .int .i64 b]] w fun y w' => y = .returned (.int .i64 (dcheckN t c b who seq st es)) ∧ ∃ r, w' = ext w r := by
  have HV := hid hv
  have HS := hid hs
  have HO := hid hok
  obtain ⟨a, cp, rfl, ⟨hm, hlc⟩, _⟩ := hv
  clear hs hok
  obtain ⟨q, hq⟩ : ∃ q, q = dcheckN t c b who seq st es := ⟨_, rfl⟩
  have HQ := hid hq
  rw [← hq]
  clear hq
  go_enter Tryd.func49, Tryd.ntmps49
  go_wp2_with fail
  go_call (check_any t c b _ (HS.out.of (by (show Ext _ _; repeat (first | with_reducible (refine Hid.out ?_; assumption) | with_reducible exact Ext.refl _ | with_reducible refine Ext.ext ?_ _ | with_reducible refine Ext.alloc ?_ _ | refine Ext.drew ?_ | refine Ext.drewN ?_ _ | exact Ext.refl _))))) as e w' ⟨rfl, r1, rfl⟩
  by_cases h1 : checkN t c b = 0
  rotate_left
  · have HR := hid (show q = 1 by rw [HQ.out]; unfold dcheckN; rw [if_pos h1])
    have hb : (checkN t c b != 0) = true := by simpa using h1
    clear h1
    go_wp2_with fail
    go_ret
    exact ⟨ret_int HR.out.symm, by (show Ext _ _; repeat (first | with_reducible (refine Hid.out ?_; assumption) | with_reducible exact Ext.refl _ | with_reducible refine Ext.ext ?_ _ | with_reducible refine Ext.alloc ?_ _ | refine Ext.drew ?_ | refine Ext.drewN ?_ _ | exact Ext.refl _))⟩
  have H1 := hid h1
  rw [h1]
  clear h1
  go_wp2_with fail
  go_call (place_any t c b who hw1 hw2 _ (HS.out.of (by (show Ext _ _; repeat (first | with_reducible (refine Hid.out ?_; assumption) | with_reducible exact Ext.refl _ | with_reducible refine Ext.ext ?_ _ | with_reducible refine Ext.alloc ?_ _ | refine Ext.drew ?_ | refine Ext.drewN ?_ _ | exact Ext.refl _))))) as e w' ⟨rfl, r2, rfl⟩
  obtain ⟨⟨pa, pm⟩, hp⟩ : ∃ p, p = placeN t c b who := ⟨_, rfl⟩
  rw [← hp]
  have HP := hid hp
  clear hp
  by_cases h2 : pm = 0
  · have HR := hid (show q = 3 by rw [HQ.out]; unfold dcheckN; rw [if_neg (by rw [H1.out]; simp), if_pos (by rw [← HP.out]; exact h2)])
    subst h2
    go_wp2_with fail
    go_ret
    exact ⟨ret_int HR.out.symm, by (show Ext _ _; repeat (first | with_reducible (refine Hid.out ?_; assumption) | with_reducible exact Ext.refl _ | with_reducible refine Ext.ext ?_ _ | with_reducible refine Ext.alloc ?_ _ | refine Ext.drew ?_ | refine Ext.drewN ?_ _ | exact Ext.refl _))⟩
  have H2 := hid h2
  have hb2 : (pm == 0) = false := by simpa using h2
  clear h2
  by_cases h3 : seq < 1 ∨ 16777215 < seq
  · have HR := hid (show q = 3 by rw [HQ.out]; unfold dcheckN; rw [if_neg (by rw [H1.out]; simp), if_neg (by rw [← HP.out]; exact H2.out), if_pos h3])
    rcases h3 with h3 | h3
    · go_wp2_with fail
      go_ret
      exact ⟨ret_int HR.out.symm, by (show Ext _ _; repeat (first | with_reducible (refine Hid.out ?_; assumption) | with_reducible exact Ext.refl _ | with_reducible refine Ext.ext ?_ _ | with_reducible refine Ext.alloc ?_ _ | refine Ext.drew ?_ | refine Ext.drewN ?_ _ | exact Ext.refl _))⟩
    · have h3' : ¬ seq < 1 := by omega
      go_wp2_with fail
      go_ret
      exact ⟨ret_int HR.out.symm, by (show Ext _ _; repeat (first | with_reducible (refine Hid.out ?_; assumption) | with_reducible exact Ext.refl _ | with_reducible refine Ext.ext ?_ _ | with_reducible refine Ext.alloc ?_ _ | refine Ext.drew ?_ | refine Ext.drewN ?_ _ | exact Ext.refl _))⟩
  have H3 := hid h3
  have h31 : ¬ seq < 1 := by omega
  have h32 : ¬ 16777215 < seq := by omega
  clear h3
  by_cases h4 : st < 0 ∨ 3 < st
  · have HR := hid (show q = 2 by rw [HQ.out]; unfold dcheckN; rw [if_neg (by rw [H1.out]; simp), if_neg (by rw [← HP.out]; exact H2.out), if_neg H3.out, if_pos h4])
    rcases h4 with h4 | h4
    · go_wp2_with fail
      go_ret
      exact ⟨ret_int HR.out.symm, by (show Ext _ _; repeat (first | with_reducible (refine Hid.out ?_; assumption) | with_reducible exact Ext.refl _ | with_reducible refine Ext.ext ?_ _ | with_reducible refine Ext.alloc ?_ _ | refine Ext.drew ?_ | refine Ext.drewN ?_ _ | exact Ext.refl _))⟩
    · have h4' : ¬ st < 0 := by omega
      go_wp2_with fail
      go_ret
      exact ⟨ret_int HR.out.symm, by (show Ext _ _; repeat (first | with_reducible (refine Hid.out ?_; assumption) | with_reducible exact Ext.refl _ | with_reducible refine Ext.ext ?_ _ | with_reducible refine Ext.alloc ?_ _ | refine Ext.drew ?_ | refine Ext.drewN ?_ _ | exact Ext.refl _))⟩
  have H4 := hid h4
  have h41 : ¬ st < 0 := by omega
  have h42 : ¬ 3 < st := by omega
  clear h4
  go_wp2_with fail
  go_call (echeck_any es _ HO.out _ (HV.out.of enE_len (by (show Ext _ _; repeat (first | with_reducible (refine Hid.out ?_; assumption) | with_reducible exact Ext.refl _ | with_reducible refine Ext.ext ?_ _ | with_reducible refine Ext.alloc ?_ _ | refine Ext.drew ?_ | refine Ext.drewN ?_ _ | exact Ext.refl _))))) as e w' ⟨rfl, r3, rfl⟩
  by_cases h5 : checkE es = 0
  rotate_left
  · have HR := hid (show q = checkE es by rw [HQ.out]; unfold dcheckN; rw [if_neg (by rw [H1.out]; simp), if_neg (by rw [← HP.out]; exact H2.out), if_neg H3.out, if_neg H4.out, if_pos h5])
    have hb : (checkE es != 0) = true := by simpa using h5
    clear h5
    go_wp2_with fail
    go_ret
    exact ⟨ret_int HR.out.symm, by (show Ext _ _; repeat (first | with_reducible (refine Hid.out ?_; assumption) | with_reducible exact Ext.refl _ | with_reducible refine Ext.ext ?_ _ | with_reducible refine Ext.alloc ?_ _ | refine Ext.drew ?_ | refine Ext.drewN ?_ _ | exact Ext.refl _))⟩
  obtain ⟨hloc, hl1, hl32⟩ := check_loc h5
  have HLoc := hid hloc
  have H5 := hid h5
  rw [h5]
  clear h5 hloc
  go_wp2_with fail
  go_call (sorted_any es _ HLoc.out (by omega) _ (HV.out.of enE_len (by (show Ext _ _; repeat (first | with_reducible (refine Hid.out ?_; assumption) | with_reducible exact Ext.refl _ | with_reducible refine Ext.ext ?_ _ | with_reducible refine Ext.alloc ?_ _ | refine Ext.drew ?_ | refine Ext.drewN ?_ _ | exact Ext.refl _))))) as e w' ⟨rfl, r4, rfl⟩
  cases h6 : sortB es
  · have HR := hid (show q = 12 by rw [HQ.out]; unfold dcheckN; rw [if_neg (by rw [H1.out]; simp), if_neg (by rw [← HP.out]; exact H2.out), if_neg H3.out, if_neg H4.out, if_neg (by rw [H5.out]; simp), if_pos h6])
    clear h6
    go_wp2_with fail
    go_ret
    exact ⟨ret_int HR.out.symm, by (show Ext _ _; repeat (first | with_reducible (refine Hid.out ?_; assumption) | with_reducible exact Ext.refl _ | with_reducible refine Ext.ext ?_ _ | with_reducible refine Ext.alloc ?_ _ | refine Ext.drew ?_ | refine Ext.drewN ?_ _ | exact Ext.refl _))⟩
  have H6 := hid h6
  clear h6
  have HT := hid (show q = if mayAll t c b es = false then 10 else if pm < (es.length : Int) then 15 else 0 by
    rw [HQ.out]; unfold dcheckN; rw [if_neg (by rw [H1.out]; simp), if_neg (by rw [← HP.out]; exact H2.out), if_neg H3.out, if_neg H4.out, if_neg (by rw [H5.out]; simp), if_neg (by rw [H6.out]; simp), ← HP.out])
  have H0 := hid (show mayAll t c b es = mayAll t c b (es.drop 0) from rfl)
  go_wp2_with fail
  go_loopw [54] (fun i wr => ∃ j : Nat, j ≤ es.length ∧ i = .int .i64 j ∧ Hid (mayAll t c b es = mayAll t c b (es.drop j)) ∧ ∃ r, wr = ext (ext ((w.alloc (.cells #[.int .i64 who, .int .i64 seq, .int .i64 st, .slice a es.length cp] 78)).alloc (.cells #[.int .i64 t, .int .i64 c, .int .i64 b] 39)) r1) r) (fun i _ => es.length - (intOf i).toNat)
  case atStart => exact ⟨0, by omega, rfl, H0, by (show Ext _ _; repeat (first | with_reducible (refine Hid.out ?_; assumption) | with_reducible exact Ext.refl _ | with_reducible refine Ext.ext ?_ _ | with_reducible refine Ext.alloc ?_ _ | refine Ext.drew ?_ | refine Ext.drewN ?_ _ | exact Ext.refl _))⟩
  case round =>
    clear H0
    obtain ⟨j, hj, rfl, HJ, r, rfl⟩ := hrel
    by_cases hjl : j < es.length
    · have hd : decide (j < es.length) = true := decide_eq_true hjl
      obtain ⟨hnl, b0, o, hab, hbl, hcs⟩ := Sl.at HV.out (List.getElem?_eq_getElem hjl)
      have HX := hid (List.getElem?_eq_getElem hjl)
      have hlc2 := HLoc.out _ (List.getElem_mem hjl)
      generalize es[j] = e at hcs HX hlc2
      have HA := hid (mayAll_at (t := t) (c := c) (b := b) HX.out)
      subst hab
      obtain ⟨loc, val, ver, ref, new, wr1⟩ := e
      have k0 := hcs 0 (by omega)
      have k1 := hcs 1 (by omega)
      have k2 := hcs 2 (by omega)
      have k3 := hcs 3 (by omega)
      have k4 := hcs 4 (by omega)
      have k5 := hcs 5 (by omega)
      simp [enE] at k0 k1 k2 k3 k4 k5
      clear hcs hnl
      dsimp only at hlc2
      obtain ⟨hlo, hhi⟩ := hlc2
      cases hmay : mayN t c b loc
      · have HM := hid hmay
        have HR := hid (show q = 10 by rw [HT.out, if_pos (by rw [HJ.out, HA.out, hmay]; rfl)])
        clear hmay HA HJ
        go_wp2_with fail
        go_call (may_any t c b loc (by omega) (by omega) _ (HS.out.of (by (show Ext _ _; repeat (first | with_reducible (refine Hid.out ?_; assumption) | with_reducible exact Ext.refl _ | with_reducible refine Ext.ext ?_ _ | with_reducible refine Ext.alloc ?_ _ | refine Ext.drew ?_ | refine Ext.drewN ?_ _ | exact Ext.refl _))))) as e w' ⟨rfl, r5, rfl⟩
        rw [HM.out]
        go_wp2_with fail
        go_ret
        exact ⟨ret_int HR.out.symm, by (show Ext _ _; repeat (first | with_reducible (refine Hid.out ?_; assumption) | with_reducible exact Ext.refl _ | with_reducible refine Ext.ext ?_ _ | with_reducible refine Ext.alloc ?_ _ | refine Ext.drew ?_ | refine Ext.drewN ?_ _ | exact Ext.refl _))⟩
      · have HM := hid hmay
        have HN := hid (show mayAll t c b es = mayAll t c b (es.drop (j + 1)) by rw [HJ.out, HA.out, hmay]; rfl)
        clear hmay HA HJ
        go_wp2_with fail
        go_call (may_any t c b loc (by omega) (by omega) _ (HS.out.of (by (show Ext _ _; repeat (first | with_reducible (refine Hid.out ?_; assumption) | with_reducible exact Ext.refl _ | with_reducible refine Ext.ext ?_ _ | with_reducible refine Ext.alloc ?_ _ | refine Ext.drew ?_ | refine Ext.drewN ?_ _ | exact Ext.refl _))))) as e w' ⟨rfl, r5, rfl⟩
        rw [HM.out]
        go_wp2_with fail
        go_roundw
        case rel => exact ⟨j + 1, by omega, by go_num, HN, by (show Ext _ _; repeat (first | with_reducible (refine Hid.out ?_; assumption) | with_reducible exact Ext.refl _ | with_reducible refine Ext.ext ?_ _ | with_reducible refine Ext.alloc ?_ _ | refine Ext.drew ?_ | refine Ext.drewN ?_ _ | exact Ext.refl _))⟩
        case measure => simp [intOf]; omega
    · have hd : decide (j < es.length) = false := decide_eq_false hjl
      have HM := hid (show mayAll t c b es = true by rw [HJ.out, List.drop_eq_nil_of_le (by omega)]; rfl)
      clear HJ
      by_cases h7 : pm < (es.length : Int)
      · have HR := hid (show q = 15 by rw [HT.out, if_neg (by rw [HM.out]; simp), if_pos h7])
        go_wp2_with fail
        go_ret
        exact ⟨ret_int HR.out.symm, by (show Ext _ _; repeat (first | with_reducible (refine Hid.out ?_; assumption) | with_reducible exact Ext.refl _ | with_reducible refine Ext.ext ?_ _ | with_reducible refine Ext.alloc ?_ _ | refine Ext.drew ?_ | refine Ext.drewN ?_ _ | exact Ext.refl _))⟩
      · have HR := hid (show q = 0 by rw [HT.out, if_neg (by rw [HM.out]; simp), if_neg h7])
        go_wp2_with fail
        go_ret
        exact ⟨ret_int HR.out.symm, by (show Ext _ _; repeat (first | with_reducible (refine Hid.out ?_; assumption) | with_reducible exact Ext.refl _ | with_reducible refine Ext.ext ?_ _ | with_reducible refine Ext.alloc ?_ _ | refine Ext.drew ?_ | refine Ext.drewN ?_ _ | exact Ext.refl _))⟩

end Go.Proofs.YtfijnpfhffhffaaDoor
