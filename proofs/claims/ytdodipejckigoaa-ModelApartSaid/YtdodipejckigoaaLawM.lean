/- Walks of the helpers of the statements on models: Few, Is, awake. -/
import Derived.Test.YtdodipejckigoaaModD
namespace Go.Proofs.Ytdodipejckigoaa
open Go.RowKit

/-- A slice value as one cell. -/
def slE (x : Option Addr × Nat × Nat) : List Value := [.slice x.1 x.2.1 x.2.2]
theorem slE_len (x : Option Addr × Nat × Nat) : (slE x).length = 1 := rfl
/-- Plain: is the input small? -/
def fewB (n : Nat) (vs : List (Option Addr × Nat × Nat)) : Bool := vs.all (fun x => decide (x.2.1 ≤ 12)) && decide (n ≤ 20 ∧ vs.length ≤ 20)
theorem fewB_at {n : Nat} {vs : List (Option Addr × Nat × Nat)} {j : Nat} {x : Option Addr × Nat × Nat} (h : vs[j]? = some x) : (vs.drop j).all (fun x => decide (x.2.1 ≤ 12)) = (decide (x.2.1 ≤ 12) && (vs.drop (j + 1)).all (fun x => decide (x.2.1 ≤ 12))) := by
  obtain ⟨hj, hk⟩ := List.getElem?_eq_some_iff.1 h
  rw [List.drop_eq_getElem_cons hj, hk]
  rfl

set_option maxHeartbeats 1000000 in
theorem few_any (n : Nat) (aw : Option Addr) (cw : Nat) (vs : List (Option Addr × Nat × Nat)) (vl : Value) (w : World) (hv : Sl w 1 slE vl vs) :
    Calls Try.prog 8 #[.slice aw n cw, vl] w fun y w' => y = .returned (.bool (fewB n vs)) ∧ ∃ r, w' = ext w r := by
  have HV := hid hv
  obtain ⟨a, c, rfl, ⟨hm, hlc⟩, _⟩ := hv
  have H0 := hid (show vs.all (fun x => decide (x.2.1 ≤ 12)) = (vs.drop 0).all (fun x => decide (x.2.1 ≤ 12)) from rfl)
  go_enter Try.func8, Try.ntmps8
  go_wp2_with fail
  go_loopw [9] (fun i wr => ∃ j : Nat, j ≤ vs.length ∧ i = .int .i64 j ∧ Hid (vs.all (fun x => decide (x.2.1 ≤ 12)) = (vs.drop j).all (fun x => decide (x.2.1 ≤ 12))) ∧ ∃ r, wr = ext w r) (fun i _ => vs.length - (intOf i).toNat)
  case atStart => exact ⟨0, by omega, rfl, H0, by (show Ext _ _; repeat (first | with_reducible exact Ext.refl _ | with_reducible refine Ext.ext ?_ _ | with_reducible refine Ext.alloc ?_ _ | refine Ext.drew ?_ | refine Ext.drewN ?_ _ | exact Ext.refl _))⟩
  case round =>
    clear H0
    obtain ⟨j, hj, rfl, H0, r, rfl⟩ := hrel
    by_cases hjl : j < vs.length
    · have hd : decide (j < vs.length) = true := decide_eq_true hjl
      obtain ⟨hnl, b, o, hab, hbl, hcs⟩ := Sl.at HV.out (List.getElem?_eq_getElem hjl)
      have HX := hid (List.getElem?_eq_getElem hjl)
      generalize vs[j] = e at hcs HX
      have HA := hid (fewB_at (n := n) HX.out)
      obtain ⟨ea, en, ec⟩ := e
      subst hab
      have c0 := hcs 0 (by omega)
      simp [slE] at c0
      clear hcs hnl
      by_cases h12 : en ≤ 12
      · have h12' : ¬ (12 : Int) < (en : Int) := by omega
        have HN := hid (show vs.all (fun x => decide (x.2.1 ≤ 12)) = (vs.drop (j + 1)).all (fun x => decide (x.2.1 ≤ 12)) by rw [H0.out, HA.out]; simp [h12])
        clear H0 HA h12
        go_wp2_with fail
        go_roundw
        case rel => exact ⟨j + 1, by omega, by go_num, HN, by (show Ext _ _; repeat (first | with_reducible exact Ext.refl _ | with_reducible refine Ext.ext ?_ _ | with_reducible refine Ext.alloc ?_ _ | refine Ext.drew ?_ | refine Ext.drewN ?_ _ | exact Ext.refl _))⟩
        case measure => simp [intOf]; omega
      · have h12' : (12 : Int) < (en : Int) := by omega
        have HN := hid (show fewB n vs = false by unfold fewB; rw [H0.out, HA.out]; simp [h12])
        clear H0 HA h12
        go_wp2_with fail
        go_ret
        exact ⟨ret_bool HN.out.symm, by (show Ext _ _; repeat (first | with_reducible exact Ext.refl _ | with_reducible refine Ext.ext ?_ _ | with_reducible refine Ext.alloc ?_ _ | refine Ext.drew ?_ | refine Ext.drewN ?_ _ | exact Ext.refl _))⟩
    · have hd : decide (j < vs.length) = false := decide_eq_false hjl
      have HT := hid (show vs.all (fun x => decide (x.2.1 ≤ 12)) = true by rw [H0.out, List.drop_eq_nil_of_le (by omega)]; rfl)
      clear H0
      by_cases h1 : n ≤ 20
      · have h1' : (n : Int) ≤ 20 := by omega
        by_cases h2 : vs.length ≤ 20
        · have h2' : (vs.length : Int) ≤ 20 := by omega
          have HN := hid (show fewB n vs = true by unfold fewB; rw [HT.out]; simp [h1, h2])
          clear h1 h2
          go_wp2_with fail
          go_ret
          exact ⟨ret_bool HN.out.symm, by (show Ext _ _; repeat (first | with_reducible exact Ext.refl _ | with_reducible refine Ext.ext ?_ _ | with_reducible refine Ext.alloc ?_ _ | refine Ext.drew ?_ | refine Ext.drewN ?_ _ | exact Ext.refl _))⟩
        · have h2' : ¬ (vs.length : Int) ≤ 20 := by omega
          have HN := hid (show fewB n vs = false by unfold fewB; rw [HT.out]; simp [h1, h2])
          clear h1 h2
          go_wp2_with fail
          go_ret
          exact ⟨ret_bool HN.out.symm, by (show Ext _ _; repeat (first | with_reducible exact Ext.refl _ | with_reducible refine Ext.ext ?_ _ | with_reducible refine Ext.alloc ?_ _ | refine Ext.drew ?_ | refine Ext.drewN ?_ _ | exact Ext.refl _))⟩
      · have h1' : ¬ (n : Int) ≤ 20 := by omega
        have HN := hid (show fewB n vs = false by unfold fewB; rw [HT.out]; simp [h1])
        clear h1
        go_wp2_with fail
        go_ret
        exact ⟨ret_bool HN.out.symm, by (show Ext _ _; repeat (first | with_reducible exact Ext.refl _ | with_reducible refine Ext.ext ?_ _ | with_reducible refine Ext.alloc ?_ _ | refine Ext.drew ?_ | refine Ext.drewN ?_ _ | exact Ext.refl _))⟩

/-- Plain: are the lists equal? -/
def eqB (l k : List Wd) : Bool := decide (l = k)
theorem drop_at {l : List Wd} {j : Nat} {x : Wd} (h : l[j]? = some x) : l.drop j = x :: l.drop (j + 1) := by
  obtain ⟨hj, hk⟩ := List.getElem?_eq_some_iff.1 h
  rw [List.drop_eq_getElem_cons hj, hk]

set_option maxHeartbeats 2000000 in
theorem is_any (l k : List Wd) (v vk : Value) (w : World) (hl : l.length ≤ 100000) (hv : Wsl w v l) (hk : Wsl w vk k) :
    Calls Try.prog 18 #[.agg #[v], vk] w fun y w' => y = .returned (.bool (eqB l k)) ∧ ∃ r, w' = ext w r := by
  have HV := hid hv
  have HK := hid hk
  have hek := neq_word
  have heg := eq_guard_word
  obtain ⟨ak, ck, rfl, ⟨hmk, hlck⟩, _⟩ := hk
  clear hv
  by_cases hll : l.length = k.length
  · have HL := hid hll
    have H0 := hid (show (l = k) = (l.drop 0 = k.drop 0) from rfl)
    obtain ⟨n, hn⟩ : ∃ n, n = l.length := ⟨_, rfl⟩
    have HN := hid hn
    have hnn : ((n : Int) != (n : Int)) = false := by simp
    have hkn : k.length = n := by omega
    rw [hkn] at HK hmk hlck ⊢
    have HKN := hid hkn
    clear hn hll hkn
    go_enter Try.func18, Try.ntmps18
    go_wp2_with fail
    go_call (words_any l _ _ hl (HV.out.of wdE_len (by (show Ext _ _; repeat (first | with_reducible exact Ext.refl _ | with_reducible refine Ext.ext ?_ _ | with_reducible refine Ext.alloc ?_ _ | refine Ext.drew ?_ | refine Ext.drewN ?_ _ | exact Ext.refl _))))) as y w' ⟨v1, rfl, ⟨r1, rfl⟩, hv1⟩
    obtain ⟨a1, c1, hsh⟩ := Own.shape hv1
    rw [← HN.out] at hsh
    subst hsh
    have HO := hid (Sl.of_own wdE_len hv1)
    clear hv1
    go_wp2_with fail
    go_call (len_any l _ _ (HV.out.of wdE_len (by (show Ext _ _; repeat (first | with_reducible exact Ext.refl _ | with_reducible refine Ext.ext ?_ _ | with_reducible refine Ext.alloc ?_ _ | refine Ext.drew ?_ | refine Ext.drewN ?_ _ | exact Ext.refl _))))) as y w' ⟨rfl, r2, rfl⟩
    rw [← HN.out]
    go_wp2_with fail
    go_loopw [25] (fun i wr => ∃ j : Nat, j ≤ n ∧ i = .int .i64 j ∧ Hid ((l = k) = (l.drop j = k.drop j)) ∧ ∃ r, wr = ext (ext (w.alloc (.cells #[v] 27)) r1) r) (fun i _ => n - (intOf i).toNat)
    case atStart => exact ⟨0, by omega, rfl, H0, by (show Ext _ _; repeat (first | with_reducible exact Ext.refl _ | with_reducible refine Ext.ext ?_ _ | with_reducible refine Ext.alloc ?_ _ | refine Ext.drew ?_ | refine Ext.drewN ?_ _ | exact Ext.refl _))⟩
    case round =>
      clear H0
      obtain ⟨j, hj, rfl, H0, r, rfl⟩ := hrel
      by_cases hjn : j < n
      · have hd : decide (j < n) = true := decide_eq_true hjn
        have hjl : j < l.length := by have := HN.out; omega
        have hjk : j < k.length := by have := HN.out; have := HL.out; omega
        obtain ⟨hq0, b, o, hab, hbl, hcs⟩ := Sl.at HK.out (List.getElem?_eq_getElem hjk)
        obtain ⟨hq1, b1, o1, hab1, hbl1, hcs1⟩ := Sl.at HO.out (List.getElem?_eq_getElem hjl)
        have HA := hid (show atW l j = (l[j], true) by simp [atW, hjl])
        have HX := hid (List.getElem?_eq_getElem hjl)
        have HY := hid (List.getElem?_eq_getElem hjk)
        generalize l[j] = x at HX HA hcs1
        generalize k[j] = y at HY hcs
        obtain ⟨x1, x2, x3⟩ := x
        obtain ⟨y1, y2, y3⟩ := y
        subst hab hab1
        have c0 := hcs 0 (by omega)
        have c1 := hcs 1 (by omega)
        have c2 := hcs 2 (by omega)
        have d0 := hcs1 0 (by omega)
        have d1 := hcs1 1 (by omega)
        have d2 := hcs1 2 (by omega)
        simp [wdE] at c0 c1 c2 d0 d1 d2
        simp only [World.size_alloc, size_ext] at hbl1
        clear hcs hcs1 hq0 hq1
        cases hb : wdB (x1, x2, x3) (y1, y2, y3)
        · have HF := hid (show eqB l k = false by
            have hne := of_decide_eq_false hb
            refine decide_eq_false (fun h => ?_)
            rw [H0.out, drop_at HX.out, drop_at HY.out] at h
            exact hne (by injection h))
          clear H0
          go_wp2_with fail
          go_call (at_any l _ j _ (HV.out.of wdE_len (by (show Ext _ _; repeat (first | with_reducible exact Ext.refl _ | with_reducible refine Ext.ext ?_ _ | with_reducible refine Ext.alloc ?_ _ | refine Ext.drew ?_ | refine Ext.drewN ?_ _ | exact Ext.refl _))))) as y w' ⟨rfl, r3, rfl⟩
          rw [HA.out]
          go_wp2_with fail
          refine region_ext (by kernel_rfl) (by kernel_rfl) ?_
          repeat (go_big_quiet_step (fail))
          refine wpQuiet_nil ?_
          rintro _ ⟨r4, rfl⟩
          go_wp2_with fail
          go_ret
          exact ⟨ret_bool HF.out.symm, by (show Ext _ _; repeat (first | with_reducible exact Ext.refl _ | with_reducible refine Ext.ext ?_ _ | with_reducible refine Ext.alloc ?_ _ | refine Ext.drew ?_ | refine Ext.drewN ?_ _ | exact Ext.refl _))⟩
        · have HT := hid (show (l = k) = (l.drop (j + 1) = k.drop (j + 1)) by
            have hne := of_decide_eq_true hb
            rw [H0.out, drop_at HX.out, drop_at HY.out, hne]
            simp)
          clear H0
          go_wp2_with fail
          go_call (at_any l _ j _ (HV.out.of wdE_len (by (show Ext _ _; repeat (first | with_reducible exact Ext.refl _ | with_reducible refine Ext.ext ?_ _ | with_reducible refine Ext.alloc ?_ _ | refine Ext.drew ?_ | refine Ext.drewN ?_ _ | exact Ext.refl _))))) as y w' ⟨rfl, r3, rfl⟩
          rw [HA.out]
          go_wp2_with fail
          refine region_ext (by kernel_rfl) (by kernel_rfl) ?_
          repeat (go_big_quiet_step (fail))
          refine wpQuiet_nil ?_
          rintro _ ⟨r4, rfl⟩
          go_wp2_with fail
          go_roundw
          case rel => exact ⟨j + 1, by omega, by go_num, HT, by (show Ext _ _; repeat (first | with_reducible exact Ext.refl _ | with_reducible refine Ext.ext ?_ _ | with_reducible refine Ext.alloc ?_ _ | refine Ext.drew ?_ | refine Ext.drewN ?_ _ | exact Ext.refl _))⟩
          case measure => simp [intOf]; omega
      · have hd : decide (j < n) = false := decide_eq_false hjn
        have HT := hid (show eqB l k = true by
          have := HN.out
          have := HL.out
          refine decide_eq_true ?_
          rw [H0.out, List.drop_eq_nil_of_le (by omega), List.drop_eq_nil_of_le (by omega)])
        clear H0
        go_wp2_with fail
        go_ret
        exact ⟨ret_bool HT.out.symm, by (show Ext _ _; repeat (first | with_reducible exact Ext.refl _ | with_reducible refine Ext.ext ?_ _ | with_reducible refine Ext.alloc ?_ _ | refine Ext.drew ?_ | refine Ext.drewN ?_ _ | exact Ext.refl _))⟩
  · have HF := hid (show eqB l k = false by unfold eqB; exact decide_eq_false (fun h => hll (by rw [h])))
    have hne : ((l.length : Int) != (k.length : Int)) = true := by simp; omega
    clear hll
    go_enter Try.func18, Try.ntmps18
    go_wp2_with fail
    go_call (words_any l _ _ hl (HV.out.of wdE_len (by (show Ext _ _; repeat (first | with_reducible exact Ext.refl _ | with_reducible refine Ext.ext ?_ _ | with_reducible refine Ext.alloc ?_ _ | refine Ext.drew ?_ | refine Ext.drewN ?_ _ | exact Ext.refl _))))) as y w' ⟨v1, rfl, ⟨r1, rfl⟩, hv1⟩
    obtain ⟨a1, c1, hsh⟩ := Own.shape hv1
    subst hsh
    clear hv1
    go_wp2_with fail
    go_ret
    exact ⟨ret_bool HF.out.symm, by (show Ext _ _; repeat (first | with_reducible exact Ext.refl _ | with_reducible refine Ext.ext ?_ _ | with_reducible refine Ext.alloc ?_ _ | refine Ext.drew ?_ | refine Ext.drewN ?_ _ | exact Ext.refl _))⟩

end Go.Proofs.Ytdodipejckigoaa
