/- The walk of package model's Swap. -/
import Derived.Test.YtlijgheghodfeaaDoorModC
namespace Go.Proofs.YtlijgheghodfeaaDoor
set_option linter.unusedSimpArgs false
set_option linter.unusedVariables false
open Go.RowKit

/-- Plain: the words after an entry is written; the swap. -/
def setW (l : List Wd) (e : En) : List Wd := if e.wr = true then l.set e.loc.toNat (e.new, (e.ver + 1) % 4294967296, 0) else l
def setL (l : List Wd) (es : List En) : List Wd := es.foldl setW l
def hasB (l : List Wd) (es : List En) : Bool := es.all (fun e => (atW l e.loc).2)
def swapN (l : List Wd) (es : List En) : List Wd × Bool × Int :=
  if checkE es ≠ 0 then (l, false, checkE es) else if hasB l es = false then (l, false, 1) else if holdsB l es = false then (l, false, 0) else (setL l es, true, 0)

theorem setW_len (l : List Wd) (e : En) : (setW l e).length = l.length := by unfold setW; split <;> simp
theorem setL_len (l : List Wd) (es : List En) : (setL l es).length = l.length := by
  unfold setL
  induction es generalizing l with
  | nil => rfl
  | cons x r ih => rw [List.foldl_cons, ih, setW_len]
theorem setL_at {l : List Wd} {es : List En} {j : Nat} {e : En} (h : es[j]? = some e) : setL l (es.take (j + 1)) = setW (setL l (es.take j)) e := by
  obtain ⟨hj, hk⟩ := List.getElem?_eq_some_iff.1 h
  unfold setL
  rw [List.take_succ_eq_append_getElem hj, List.foldl_append, hk]
  rfl
theorem hasB_at {l : List Wd} {es : List En} {j : Nat} {e : En} (h : es[j]? = some e) : hasB l (es.drop j) = ((atW l e.loc).2 && hasB l (es.drop (j + 1))) := by
  obtain ⟨hj, hk⟩ := List.getElem?_eq_some_iff.1 h
  rw [List.drop_eq_getElem_cons hj, hk]
  rfl
theorem atW_in {l : List Wd} {x : Int} (h : (atW l x).2 = true) : ∃ k : Nat, x = (k : Int) ∧ k < l.length := by
  unfold atW at h
  split at h
  · refine ⟨x.toNat, by omega, ?_⟩
    by_cases hk : x.toNat < l.length
    · exact hk
    · rw [List.getElem?_eq_none (by omega)] at h; cases h
  · cases h
theorem hasB_in {l : List Wd} {es : List En} (h : hasB l es = true) {e : En} (he : e ∈ es) : ∃ k : Nat, e.loc = (k : Int) ∧ k < l.length :=
  atW_in (List.all_eq_true.1 h e he)

/-- A whole word is written. -/
theorem Ws.set3 {w : World} {base g n c : Nat} {l : List Wd} (h : Ws w base (.slice (some ⟨g, 0, none⟩) n c) l) {k : Nat} {x : Wd} (hx : l[k]? = some x) (y : Wd) {o0 o1 o2 : Nat} (h0 : o0 = k * 3) (h1 : o1 = k * 3 + 1) (h2 : o2 = k * 3 + 2) :
    Ws (((w.setCell ⟨g, o0, none⟩ (.int .i64 y.1)).setCell ⟨g, o1, none⟩ (.int .u32 y.2.1)).setCell ⟨g, o2, none⟩ (.int .u32 y.2.2)) base (.slice (some ⟨g, 0, none⟩) n c) (l.set k y) := by
  have hk : k < l.length := (List.getElem?_eq_some_iff.1 hx).1
  have a0 := Own.set wdE_len h hx (y.1, x.2.1, x.2.2) (j := 0) (by omega) (.int .i64 y.1) rfl (o := o0) (by omega)
  have a1 := Own.set wdE_len a0 (i := k) (x := (y.1, x.2.1, x.2.2)) (by simp [hk]) (y.1, y.2.1, x.2.2) (j := 1) (by omega) (.int .u32 y.2.1) rfl (o := o1) (by omega)
  have a2 := Own.set wdE_len a1 (i := k) (x := (y.1, y.2.1, x.2.2)) (by simp [hk]) y (j := 2) (by omega) (.int .u32 y.2.2) rfl (o := o2) (by omega)
  simp only [List.set_set] at a2
  exact a2

set_option maxHeartbeats 2000000 in
theorem swap_strong (l : List Wd) (es : List En) (v ve : Value) (w : World) (hl : l.length ≤ 100000) (hok : ∀ e ∈ es, EnOk e) (hv : Wsl w v l) (he : Es w ve es) :
    Calls Tryd.prog 24 #[.agg #[v], ve] w fun y w' => ∃ v', y = .returned (.tuple #[.agg #[v'], .bool (swapN l es).2.1, .int .i64 (swapN l es).2.2]) ∧ (∃ r, w' = ext w r) ∧ Wsl w' v' (swapN l es).1 ∧ (v' = v ∨ Ws w' w.heap.size v' (swapN l es).1) := by
  have HV := hid hv
  have HE := hid he
  have HO := hid hok
  obtain ⟨av, cv, rfl, ⟨hmv, hlcv⟩, _⟩ := hv
  obtain ⟨a, c, rfl, ⟨hm, hlc⟩, _⟩ := he
  clear hok
  by_cases hz : checkE es = 0
  · have hz' : (checkE es != 0) = false := by simpa using hz
    have H0 := hid (show hasB l es = hasB l (es.drop 0) from rfl)
    have HZ := hid hz
    clear hz
    go_enter Tryd.func24, Tryd.ntmps24
    go_wp2_with fail
    go_call (echeck_any es _ HO.out _ (HE.out.of enE_len (by (show Ext _ _; repeat (first | with_reducible (refine Hid.out ?_; assumption) | with_reducible exact Ext.refl _ | with_reducible refine Ext.ext ?_ _ | with_reducible refine Ext.alloc ?_ _ | refine Ext.drew ?_ | refine Ext.drewN ?_ _ | exact Ext.refl _))))) as y w' ⟨rfl, r1, rfl⟩
    go_wp2_with fail
    go_loopw [23] (fun i wr => ∃ j : Nat, j ≤ es.length ∧ i = .int .i64 j ∧ Hid (hasB l es = hasB l (es.drop j)) ∧ ∃ r, wr = ext ((w.alloc (.cells #[.slice av l.length cv] 65)).alloc (.cells #[.slice none 0 0] 65)) r) (fun i _ => es.length - (intOf i).toNat)
    case atStart => exact ⟨0, by omega, rfl, H0, by (show Ext _ _; repeat (first | with_reducible (refine Hid.out ?_; assumption) | with_reducible exact Ext.refl _ | with_reducible refine Ext.ext ?_ _ | with_reducible refine Ext.alloc ?_ _ | refine Ext.drew ?_ | refine Ext.drewN ?_ _ | exact Ext.refl _))⟩
    case round =>
      clear H0
      obtain ⟨j, hj, rfl, H0, r, rfl⟩ := hrel
      by_cases hjl : j < es.length
      · have hd : decide (j < es.length) = true := decide_eq_true hjl
        obtain ⟨hnl, b, o, hab, hbl, hcs⟩ := Sl.at HE.out (List.getElem?_eq_getElem hjl)
        have HX := hid (List.getElem?_eq_getElem hjl)
        generalize es[j] = e at hcs HX
        have HA := hid (hasB_at (l := l) HX.out)
        subst hab
        have c0 := hcs 0 (by omega)
        have c1 := hcs 1 (by omega)
        have c2 := hcs 2 (by omega)
        have c3 := hcs 3 (by omega)
        have c4 := hcs 4 (by omega)
        have c5 := hcs 5 (by omega)
        simp [enE] at c0 c1 c2 c3 c4 c5
        clear hcs hnl
        obtain ⟨q, hq⟩ : ∃ q, q = atW l e.loc := ⟨_, rfl⟩
        obtain ⟨⟨x1, x2, x3⟩, ok⟩ := q
        have HQ := hid hq
        clear hq
        cases ok
        · have HN := hid (show swapN l es = (l, false, 1) by unfold swapN; rw [if_neg (by rw [HZ.out]; simp), if_pos (by rw [H0.out, HA.out, ← HQ.out]; rfl)])
          clear HA H0 HZ
          go_wp2_with fail
          go_call (mat_any l _ e.loc _ (HV.out.of wdE_len (by (show Ext _ _; repeat (first | with_reducible (refine Hid.out ?_; assumption) | with_reducible exact Ext.refl _ | with_reducible refine Ext.ext ?_ _ | with_reducible refine Ext.alloc ?_ _ | refine Ext.drew ?_ | refine Ext.drewN ?_ _ | exact Ext.refl _))))) as y w' ⟨rfl, r2, rfl⟩
          rw [← HQ.out]
          go_wp2_with fail
          refine bodyPost_ret (v := .tuple #[.agg #[.slice av l.length cv], .bool false, .int .i64 1]) (by simp [results, Tryd.results24, go_sem]) rfl ⟨_, by rw [HN.out], by (show Ext _ _; repeat (first | with_reducible (refine Hid.out ?_; assumption) | with_reducible exact Ext.refl _ | with_reducible refine Ext.ext ?_ _ | with_reducible refine Ext.alloc ?_ _ | refine Ext.drew ?_ | refine Ext.drewN ?_ _ | refine Ext.setCell ?_ (by (try dsimp only); first | omega | (simp; done) | (simp; omega)) _)), ?_⟩
          rw [HN.out]
          exact ⟨HV.out.of wdE_len (by (show Ext _ _; repeat (first | with_reducible (refine Hid.out ?_; assumption) | with_reducible exact Ext.refl _ | with_reducible refine Ext.ext ?_ _ | with_reducible refine Ext.alloc ?_ _ | refine Ext.drew ?_ | refine Ext.drewN ?_ _ | refine Ext.setCell ?_ (by (try dsimp only); first | omega | (simp; done) | (simp; omega)) _))), .inl rfl⟩
        · have HN := hid (show hasB l es = hasB l (es.drop (j + 1)) by rw [H0.out, HA.out, ← HQ.out]; simp)
          clear HA H0
          go_wp2_with fail
          go_call (mat_any l _ e.loc _ (HV.out.of wdE_len (by (show Ext _ _; repeat (first | with_reducible (refine Hid.out ?_; assumption) | with_reducible exact Ext.refl _ | with_reducible refine Ext.ext ?_ _ | with_reducible refine Ext.alloc ?_ _ | refine Ext.drew ?_ | refine Ext.drewN ?_ _ | exact Ext.refl _))))) as y w' ⟨rfl, r2, rfl⟩
          rw [← HQ.out]
          go_wp2_with fail
          go_roundw
          case rel => exact ⟨j + 1, by omega, by go_num, HN, by (show Ext _ _; repeat (first | with_reducible (refine Hid.out ?_; assumption) | with_reducible exact Ext.refl _ | with_reducible refine Ext.ext ?_ _ | with_reducible refine Ext.alloc ?_ _ | refine Ext.drew ?_ | refine Ext.drewN ?_ _ | exact Ext.refl _))⟩
          case measure => simp [intOf]; omega
      · have hd : decide (j < es.length) = false := decide_eq_false hjl
        have HN := hid (show hasB l es = true by rw [H0.out, List.drop_eq_nil_of_le (by omega)]; rfl)
        clear H0
        cases hh : holdsB l es
        · have HH := hid hh
          clear hh
          have HR := hid (show swapN l es = (l, false, 0) by unfold swapN; rw [if_neg (by rw [HZ.out]; simp), if_neg (by rw [HN.out]; simp), if_pos HH.out])
          go_wp2_with fail
          go_call (holds_any l es _ _ _ (HV.out.of wdE_len (by (show Ext _ _; repeat (first | with_reducible (refine Hid.out ?_; assumption) | with_reducible exact Ext.refl _ | with_reducible refine Ext.ext ?_ _ | with_reducible refine Ext.alloc ?_ _ | refine Ext.drew ?_ | refine Ext.drewN ?_ _ | exact Ext.refl _)))) (HE.out.of enE_len (by (show Ext _ _; repeat (first | with_reducible (refine Hid.out ?_; assumption) | with_reducible exact Ext.refl _ | with_reducible refine Ext.ext ?_ _ | with_reducible refine Ext.alloc ?_ _ | refine Ext.drew ?_ | refine Ext.drewN ?_ _ | exact Ext.refl _))))) as y w' ⟨rfl, r2, rfl⟩
          rw [HH.out]
          go_wp2_with fail
          refine bodyPost_ret (v := .tuple #[.agg #[.slice av l.length cv], .bool false, .int .i64 0]) (by simp [results, Tryd.results24, go_sem]) rfl ⟨_, by rw [HR.out], by (show Ext _ _; repeat (first | with_reducible (refine Hid.out ?_; assumption) | with_reducible exact Ext.refl _ | with_reducible refine Ext.ext ?_ _ | with_reducible refine Ext.alloc ?_ _ | refine Ext.drew ?_ | refine Ext.drewN ?_ _ | refine Ext.setCell ?_ (by (try dsimp only); first | omega | (simp; done) | (simp; omega)) _)), ?_⟩
          rw [HR.out]
          exact ⟨HV.out.of wdE_len (by (show Ext _ _; repeat (first | with_reducible (refine Hid.out ?_; assumption) | with_reducible exact Ext.refl _ | with_reducible refine Ext.ext ?_ _ | with_reducible refine Ext.alloc ?_ _ | refine Ext.drew ?_ | refine Ext.drewN ?_ _ | refine Ext.setCell ?_ (by (try dsimp only); first | omega | (simp; done) | (simp; omega)) _))), .inl rfl⟩
        · have HH := hid hh
          clear hh
          have HR := hid (show swapN l es = (setL l es, true, 0) by unfold swapN; rw [if_neg (by rw [HZ.out]; simp), if_neg (by rw [HN.out]; simp), if_neg (by rw [HH.out]; simp)])
          go_wp2_with fail
          go_call (holds_any l es _ _ _ (HV.out.of wdE_len (by (show Ext _ _; repeat (first | with_reducible (refine Hid.out ?_; assumption) | with_reducible exact Ext.refl _ | with_reducible refine Ext.ext ?_ _ | with_reducible refine Ext.alloc ?_ _ | refine Ext.drew ?_ | refine Ext.drewN ?_ _ | exact Ext.refl _)))) (HE.out.of enE_len (by (show Ext _ _; repeat (first | with_reducible (refine Hid.out ?_; assumption) | with_reducible exact Ext.refl _ | with_reducible refine Ext.ext ?_ _ | with_reducible refine Ext.alloc ?_ _ | refine Ext.drew ?_ | refine Ext.drewN ?_ _ | exact Ext.refl _))))) as y w' ⟨rfl, r2, rfl⟩
          rw [HH.out]
          go_wp2_with fail
          go_call (words_any l _ _ hl (HV.out.of wdE_len (by (show Ext _ _; repeat (first | with_reducible (refine Hid.out ?_; assumption) | with_reducible exact Ext.refl _ | with_reducible refine Ext.ext ?_ _ | with_reducible refine Ext.alloc ?_ _ | refine Ext.drew ?_ | refine Ext.drewN ?_ _ | exact Ext.refl _))))) as y w' ⟨v1, rfl, ⟨r3, rfl⟩, hv1⟩
          go_wp2_with fail
          obtain ⟨a1, c1, hsh⟩ := Own.shape hv1
          subst hsh
          have HO1 := hid (Own.mono (base' := ((w.alloc (.cells #[.slice av l.length cv] 65)).alloc (.cells #[.slice none 0 0] 65)).heap.size) hv1 (by simp; omega))
          clear hv1
          go_loopw [47] (fun i wr => ∃ j : Nat, j ≤ es.length ∧ i = .int .i64 j ∧ Ws wr ((w.alloc (.cells #[.slice av l.length cv] 65)).alloc (.cells #[.slice none 0 0] 65)).heap.size (.slice a1 l.length c1) (setL l (es.take j)) ∧ ∃ r, wr = ext ((w.alloc (.cells #[.slice av l.length cv] 65)).alloc (.cells #[.slice none 0 0] 65)) r) (fun i _ => es.length - (intOf i).toNat)
          case atStart => exact ⟨0, by omega, rfl, (show Ws _ _ _ (setL l (es.take 0)) from HO1.out), by (show Ext _ _; repeat (first | with_reducible (refine Hid.out ?_; assumption) | with_reducible exact Ext.refl _ | with_reducible refine Ext.ext ?_ _ | with_reducible refine Ext.alloc ?_ _ | refine Ext.drew ?_ | refine Ext.drewN ?_ _ | exact Ext.refl _))⟩
          case round =>
            clear HO1
            obtain ⟨j, hj, rfl, hown, r, rfl⟩ := hrel
            by_cases hjl : j < es.length
            · have hd : decide (j < es.length) = true := decide_eq_true hjl
              obtain ⟨hnl, b, o, hab, hbl, hcs⟩ := Sl.at HE.out (List.getElem?_eq_getElem hjl)
              have HX := hid (List.getElem?_eq_getElem hjl)
              have hin := hasB_in HN.out (List.getElem_mem hjl)
              generalize es[j] = e at hcs HX hin
              have HA := hid (setL_at (l := l) HX.out)
              subst hab
              obtain ⟨loc, val, ver, ref, new, wr⟩ := e
              obtain ⟨k, hk, hkl⟩ := hin
              dsimp only at hk
              subst hk
              have c0 := hcs 0 (by omega)
              have c1 := hcs 1 (by omega)
              have c2 := hcs 2 (by omega)
              have c3 := hcs 3 (by omega)
              have c4 := hcs 4 (by omega)
              have c5 := hcs 5 (by omega)
              simp [enE] at c0 c1 c2 c3 c4 c5
              clear hcs hnl
              cases wr
              · have HO2 := hid hown
                clear hown
                go_wp2_with fail
                go_roundw
                case rel => exact ⟨j + 1, by omega, by go_num, by rw [HA.out]; exact Own.alloc HO2.out _, by (show Ext _ _; repeat (first | with_reducible (refine Hid.out ?_; assumption) | with_reducible exact Ext.refl _ | with_reducible refine Ext.ext ?_ _ | with_reducible refine Ext.alloc ?_ _ | refine Ext.drew ?_ | refine Ext.drewN ?_ _ | exact Ext.refl _))⟩
                case measure => simp [intOf]; omega
              · have hkd : decide (k < l.length) = true := decide_eq_true hkl
                have hkx : k < (setL l (es.take j)).length := by rw [setL_len]; exact hkl
                obtain ⟨g, c', hg, hgl, hds⟩ := Own.cellsAt wdE_len hown (List.getElem?_eq_getElem hkx)
                simp only [Value.slice.injEq] at hg
                obtain ⟨rfl, -, -⟩ := hg
                have hgb : w.heap.size + 1 + 1 ≤ g := by have := (World.ownsRow.lt hown g rfl).1; simpa using this
                have HXX := hid (List.getElem?_eq_getElem hkx)
                generalize (setL l (es.take j))[k] = x at hds HXX
                simp only [World.size_alloc, size_ext] at hgl
                have d0 := hds 0 (by omega)
                have d1 := hds 1 (by omega)
                have d2 := hds 2 (by omega)
                simp [wdE] at d0 d1 d2
                have f0 := Ws.free hown (k * 3)
                have f1 := Ws.free hown (k * 3 + 1)
                have f2 := Ws.free hown (k * 3 + 2)
                have HO2 := hid hown
                clear hds hown hkx
                go_wp2_with fail
                go_roundw
                case rel => exact ⟨j + 1, by omega, by go_num, by rw [HA.out]; exact Own.alloc (Ws.set3 HO2.out HXX.out (new, (ver + 1) % 4294967296, 0) rfl rfl rfl) _, by (show Ext _ _; repeat (first | with_reducible (refine Hid.out ?_; assumption) | with_reducible exact Ext.refl _ | with_reducible refine Ext.ext ?_ _ | with_reducible refine Ext.alloc ?_ _ | refine Ext.drew ?_ | refine Ext.drewN ?_ _ | refine Ext.setCell ?_ (by (try dsimp only); first | omega | (simp; done) | (simp; omega)) _))⟩
                case measure => simp [intOf]; omega
            · have hd : decide (j < es.length) = false := decide_eq_false hjl
              obtain rfl : j = es.length := by omega
              have HO2 := hid hown
              clear hown
              go_wp2_with fail
              have HO3 := hid (ownsRow_setCell_below HO2.out (a := ⟨w.heap.size + 1, 0, none⟩) (by simp) (.slice a1 l.length c1))
              refine bodyPost_ret (v := .tuple #[.agg #[.slice a1 l.length c1], .bool true, .int .i64 0]) (by simp [results, Tryd.results24, go_sem]) rfl ⟨_, by rw [HR.out], by (show Ext _ _; repeat (first | with_reducible (refine Hid.out ?_; assumption) | with_reducible exact Ext.refl _ | with_reducible refine Ext.ext ?_ _ | with_reducible refine Ext.alloc ?_ _ | refine Ext.drew ?_ | refine Ext.drewN ?_ _ | refine Ext.setCell ?_ (by (try dsimp only); first | omega | (simp; done) | (simp; omega)) _)), ?_⟩
              rw [HR.out]
              have h9 := HO3.out
              rw [List.take_length] at h9
              exact ⟨Sl.of_own wdE_len h9, .inr (Own.mono h9 (by simp; omega))⟩

  · have HR := hid (show swapN l es = (l, false, checkE es) by unfold swapN; rw [if_pos hz])
    have hz' : (checkE es != 0) = true := by simpa using hz
    clear hz
    go_enter Tryd.func24, Tryd.ntmps24
    go_wp2_with fail
    go_call (echeck_any es _ HO.out _ (HE.out.of enE_len (by (show Ext _ _; repeat (first | with_reducible (refine Hid.out ?_; assumption) | with_reducible exact Ext.refl _ | with_reducible refine Ext.ext ?_ _ | with_reducible refine Ext.alloc ?_ _ | refine Ext.drew ?_ | refine Ext.drewN ?_ _ | exact Ext.refl _))))) as y w' ⟨rfl, r1, rfl⟩
    go_wp2_with fail
    refine bodyPost_ret (v := .tuple #[.agg #[.slice av l.length cv], .bool false, .int .i64 (checkE es)]) (by simp [results, Tryd.results24, go_sem]) rfl ⟨_, by rw [HR.out], by (show Ext _ _; repeat (first | with_reducible (refine Hid.out ?_; assumption) | with_reducible exact Ext.refl _ | with_reducible refine Ext.ext ?_ _ | with_reducible refine Ext.alloc ?_ _ | refine Ext.drew ?_ | refine Ext.drewN ?_ _ | refine Ext.setCell ?_ (by (try dsimp only); first | omega | (simp; done) | (simp; omega)) _)), ?_⟩
    rw [HR.out]
    exact ⟨HV.out.of wdE_len (by (show Ext _ _; repeat (first | with_reducible (refine Hid.out ?_; assumption) | with_reducible exact Ext.refl _ | with_reducible refine Ext.ext ?_ _ | with_reducible refine Ext.alloc ?_ _ | refine Ext.drew ?_ | refine Ext.drewN ?_ _ | refine Ext.setCell ?_ (by (try dsimp only); first | omega | (simp; done) | (simp; omega)) _))), .inl rfl⟩

theorem swap_any (l : List Wd) (es : List En) (v ve : Value) (w : World) (hl : l.length ≤ 100000) (hok : ∀ e ∈ es, EnOk e) (hv : Wsl w v l) (he : Es w ve es) :
    Calls Tryd.prog 24 #[.agg #[v], ve] w fun y w' => ∃ v', y = .returned (.tuple #[.agg #[v'], .bool (swapN l es).2.1, .int .i64 (swapN l es).2.2]) ∧ (∃ r, w' = ext w r) ∧ Wsl w' v' (swapN l es).1 :=
  (swap_strong l es v ve w hl hok hv he).mono fun _ _ ⟨v', h1, h2, h3, _⟩ => ⟨v', h1, h2, h3⟩

end Go.Proofs.YtlijgheghodfeaaDoor
