/- Walks of package entry's Check and the searches that it uses. The walk of package entry's Check. -/
import Derived.Test.YtfijnpfhffhffaaDoorEntA
namespace Go.Proofs.YtfijnpfhffhffaaDoor
set_option linter.unusedSimpArgs false
set_option linter.unusedVariables false
open Go.RowKit

set_option maxHeartbeats 400000 in
theorem same_at (e : En) (kb : Nat) (x : Int) (w : World) (hc : w.cell? ⟨kb, 0, none⟩ = some (.int .i64 x)) :
    Calls Tryd.prog 71 #[.agg #[.int .i64 e.loc, .int .i64 e.val, .int .u32 e.ver, .int .u32 e.ref, .int .i64 e.new, .bool e.wr], .pointer (some ⟨kb, 0, none⟩)] w fun y w' => y = .returned (.bool (e.loc == x)) ∧ ∃ r, w' = ext w r := by
  have hlt := World.block_lt_of_cell? w _ hc
  simp only [] at hlt
  go_enter Tryd.func71, Tryd.ntmps71
  go_wp2_with fail
  go_ret
  exact ⟨rfl, by (show Ext _ _; repeat (first | with_reducible (refine Hid.out ?_; assumption) | with_reducible exact Ext.refl _ | with_reducible refine Ext.ext ?_ _ | with_reducible refine Ext.alloc ?_ _ | refine Ext.drew ?_ | refine Ext.drewN ?_ _ | exact Ext.refl _))⟩

/-- Plain: the first entry at a location, or -1. -/
def idxN (l : List En) (x : Int) : Int := match l.findIdx? (fun y => y.loc == x) with | some i => i | none => -1
theorem idxN_hit {l : List En} {x : Int} {j : Nat} {e : En} (h : l[j]? = some e) (he : e.loc = x) (hno : ∀ q, q < j → ∀ e', l[q]? = some e' → e'.loc ≠ x) : idxN l x = j := by
  obtain ⟨hj, hk⟩ := List.getElem?_eq_some_iff.1 h
  have : l.findIdx? (fun y => y.loc == x) = some j := by
    rw [List.findIdx?_eq_some_iff_getElem]
    refine ⟨hj, by simp [hk, he], fun q hq => ?_⟩
    have := hno q hq l[q] (List.getElem?_eq_getElem (by omega))
    simpa using this
  simp [idxN, this]
theorem idxN_miss {l : List En} {x : Int} (hno : ∀ q, q < l.length → ∀ e', l[q]? = some e' → e'.loc ≠ x) : idxN l x = -1 := by
  have : l.findIdx? (fun y => y.loc == x) = none := by
    rw [List.findIdx?_eq_none_iff]
    intro e he
    obtain ⟨q, hq, rfl⟩ := List.getElem_of_mem he
    have := hno q hq l[q] (List.getElem?_eq_getElem hq)
    simpa using this
  simp [idxN, this]

set_option maxHeartbeats 1000000 in
theorem index_any (l : List En) (v : Value) (kb : Nat) (x : Int) (w : World) (hv : Es w v l) (hc : w.cell? ⟨kb, 0, none⟩ = some (.int .i64 x)) :
    Calls Tryd.prog 76 #[v, .func (.func 71) #[] #[.pointer (some ⟨kb, 0, none⟩)]] w fun y w' => y = .returned (.int .i64 (idxN l x)) ∧ ∃ r, w' = ext w r := by
  have HV := hid hv
  obtain ⟨a, c, rfl, ⟨hm, hlc⟩, _⟩ := hv
  have HC := hid hc
  clear hc
  go_enter Tryd.func76, Tryd.ntmps76
  go_wp2_with fail
  go_loopw [8] (fun i wr => ∃ j : Nat, j ≤ l.length ∧ i = .int .i64 j ∧ (∀ q, q < j → ∀ e', l[q]? = some e' → e'.loc ≠ x) ∧ Ext w wr) (fun i _ => l.length - (intOf i).toNat)
  case atStart => exact ⟨0, by omega, rfl, fun _ h => by omega, by (show Ext _ _; repeat (first | with_reducible (refine Hid.out ?_; assumption) | with_reducible exact Ext.refl _ | with_reducible refine Ext.ext ?_ _ | with_reducible refine Ext.alloc ?_ _ | refine Ext.drew ?_ | refine Ext.drewN ?_ _ | exact Ext.refl _))⟩
  case round =>
    obtain ⟨j, hj, rfl, hno, r, rfl⟩ := hrel
    have HNo := hid hno
    clear hno
    by_cases hjl : j < l.length
    · have hd : decide (j < l.length) = true := decide_eq_true hjl
      obtain ⟨hnl, b, o, hab, hbl, hcs⟩ := Sl.at HV.out (List.getElem?_eq_getElem hjl)
      have HX := hid (List.getElem?_eq_getElem hjl)
      generalize l[j] = e at hcs HX
      subst hab
      have c0 := hcs 0 (by omega)
      have c1 := hcs 1 (by omega)
      have c2 := hcs 2 (by omega)
      have c3 := hcs 3 (by omega)
      have c4 := hcs 4 (by omega)
      have c5 := hcs 5 (by omega)
      simp [enE] at c0 c1 c2 c3 c4 c5
      clear hcs hnl
      by_cases he : e.loc = x
      · have he' : (e.loc == x) = true := by simpa using he
        have HR := hid (show idxN l x = j from idxN_hit HX.out he HNo.out)
        clear he
        go_wp2_with fail
        go_call (same_at e kb x _ (Ext.cell ⟨_, rfl⟩ HC.out)) as y w' ⟨rfl, r2, rfl⟩
        go_wp2_with fail
        go_ret
        exact ⟨ret_int HR.out.symm, by (show Ext _ _; repeat (first | with_reducible (refine Hid.out ?_; assumption) | with_reducible exact Ext.refl _ | with_reducible refine Ext.ext ?_ _ | with_reducible refine Ext.alloc ?_ _ | refine Ext.drew ?_ | refine Ext.drewN ?_ _ | exact Ext.refl _))⟩
      · have he' : (e.loc == x) = false := by simpa using he
        have HR : Hid (∀ q, q < j + 1 → ∀ e', l[q]? = some e' → e'.loc ≠ x) := hid (fun q hq e' hq' => by
          by_cases hqj : q = j
          · subst hqj; rw [HX.out] at hq'; cases hq'; exact he
          · exact HNo.out q (by omega) e' hq')
        clear he
        go_wp2_with fail
        go_call (same_at e kb x _ (Ext.cell ⟨_, rfl⟩ HC.out)) as y w' ⟨rfl, r2, rfl⟩
        go_wp2_with fail
        go_roundw
        case rel => exact ⟨j + 1, by omega, by go_num, HR.out, by (show Ext _ _; repeat (first | with_reducible (refine Hid.out ?_; assumption) | with_reducible exact Ext.refl _ | with_reducible refine Ext.ext ?_ _ | with_reducible refine Ext.alloc ?_ _ | refine Ext.drew ?_ | refine Ext.drewN ?_ _ | exact Ext.refl _))⟩
        case measure => simp [intOf]; omega
    · have hd : decide (j < l.length) = false := decide_eq_false hjl
      have HR := hid (show idxN l x = -1 from idxN_miss (fun q hq => HNo.out q (by omega)))
      go_wp2_with fail
      go_ret
      exact ⟨ret_int HR.out.symm, by (show Ext _ _; repeat (first | with_reducible (refine Hid.out ?_; assumption) | with_reducible exact Ext.refl _ | with_reducible refine Ext.ext ?_ _ | with_reducible refine Ext.alloc ?_ _ | refine Ext.drew ?_ | refine Ext.drewN ?_ _ | exact Ext.refl _))⟩

theorem idxN_any (l : List En) (x : Int) : decide (0 ≤ idxN l x) = l.any (fun y => y.loc == x) := by
  unfold idxN
  cases h : l.findIdx? (fun y => y.loc == x) with
  | none =>
    rw [List.findIdx?_eq_none_iff] at h
    have : l.any (fun y => y.loc == x) = false := by
      rw [List.any_eq_false]; intro y hy; have := h y hy; simpa using this
    rw [this]; simp
  | some i =>
    have : l.any (fun y => y.loc == x) = true := by
      rw [List.findIdx?_eq_some_iff_getElem] at h
      obtain ⟨hi, hp, _⟩ := h
      rw [List.any_eq_true]; exact ⟨l[i], List.getElem_mem hi, hp⟩
    rw [this]; simp

set_option maxHeartbeats 1000000 in
theorem contains_any (l : List En) (v : Value) (kb : Nat) (x : Int) (w : World) (hv : Es w v l) (hc : w.cell? ⟨kb, 0, none⟩ = some (.int .i64 x)) :
    Calls Tryd.prog 70 #[v, .func (.func 71) #[] #[.pointer (some ⟨kb, 0, none⟩)]] w fun y w' => y = .returned (.bool (l.any (fun y => y.loc == x))) ∧ ∃ r, w' = ext w r := by
  have HV := hid hv
  obtain ⟨a, c, rfl, ⟨hm, hlc⟩, _⟩ := hv
  have HC := hid hc
  clear hc
  go_enter Tryd.func70, Tryd.ntmps70
  go_wp2_with fail
  go_call (index_any l _ kb x _ HV.out HC.out) as y w' ⟨rfl, r2, rfl⟩
  go_wp2_with fail
  go_ret
  exact ⟨ret_bool (idxN_any l x), by (show Ext _ _; repeat (first | with_reducible (refine Hid.out ?_; assumption) | with_reducible exact Ext.refl _ | with_reducible refine Ext.ext ?_ _ | with_reducible refine Ext.alloc ?_ _ | refine Ext.drew ?_ | refine Ext.drewN ?_ _ | exact Ext.refl _))⟩

end Go.Proofs.YtfijnpfhffhffaaDoor

namespace Go.Proofs.YtfijnpfhffhffaaDoor
set_option linter.unusedSimpArgs false
set_option linter.unusedVariables false
open Go.RowKit

/-- Plain: the error of a list of entries, 'pre' having been looked at. -/
def checkGo (pre : List En) : List En → Int
  | [] => 0
  | x :: r => if wrongN x ≠ 0 then wrongN x else if pre.any (fun y => y.loc == x.loc) = true then 11 else checkGo (pre ++ [x]) r
def checkE (l : List En) : Int := if l.length = 0 then 8 else if 32 < l.length then 15 else checkGo [] l

theorem checkGo_at {l : List En} {j : Nat} {e : En} (h : l[j]? = some e) : checkGo (l.take j) (l.drop j) = if wrongN e ≠ 0 then wrongN e else if (l.take j).any (fun y => y.loc == e.loc) = true then 11 else checkGo (l.take (j + 1)) (l.drop (j + 1)) := by
  obtain ⟨hj, hk⟩ := List.getElem?_eq_some_iff.1 h
  rw [List.drop_eq_getElem_cons hj, hk, List.take_succ_eq_append_getElem hj, hk]
  rfl

set_option maxHeartbeats 2000000 in
theorem echeck_any (l : List En) (v : Value) (hok : ∀ e ∈ l, EnOk e) (w : World) (hv : Es w v l) :
    Calls Tryd.prog 62 #[v] w fun y w' => y = .returned (.int .i64 (checkE l)) ∧ ∃ r, w' = ext w r := by
  have HV := hid hv
  have hmf : ∀ (fn : Fn) (first cap : Array Value) (w : World), (Instr.makeFunc fn first cap).run Tryd.prog w = .ok (.func fn first cap) w := fun _ _ _ _ => rfl
  have HO := hid hok
  obtain ⟨a, c, rfl, ⟨hm, hlc⟩, _⟩ := hv
  clear hok
  by_cases h0 : l.length = 0
  · have HR := hid (show checkE l = 8 by simp [checkE, h0])
    have h0' : ((l.length : Int) == 0) = true := by rw [h0]; rfl
    clear h0
    go_enter Tryd.func62, Tryd.ntmps62
    go_wp2_with fail
    go_ret
    exact ⟨ret_int HR.out.symm, by (show Ext _ _; repeat (first | with_reducible (refine Hid.out ?_; assumption) | with_reducible exact Ext.refl _ | with_reducible refine Ext.ext ?_ _ | with_reducible refine Ext.alloc ?_ _ | refine Ext.drew ?_ | refine Ext.drewN ?_ _ | exact Ext.refl _))⟩
  by_cases h32 : 32 < l.length
  · have HR := hid (show checkE l = 15 by unfold checkE; rw [if_neg h0, if_pos h32])
    have h0' : ((l.length : Int) == 0) = false := beq_eq_false_iff_ne.2 (by omega)
    have h32' : (32 : Int) < (l.length : Int) := by omega
    clear h0 h32
    go_enter Tryd.func62, Tryd.ntmps62
    go_wp2_with fail
    go_ret
    exact ⟨ret_int HR.out.symm, by (show Ext _ _; repeat (first | with_reducible (refine Hid.out ?_; assumption) | with_reducible exact Ext.refl _ | with_reducible refine Ext.ext ?_ _ | with_reducible refine Ext.alloc ?_ _ | refine Ext.drew ?_ | refine Ext.drewN ?_ _ | exact Ext.refl _))⟩
  have HE := hid (show checkE l = checkGo (l.take 0) (l.drop 0) by unfold checkE; rw [if_neg h0, if_neg h32]; simp)
  have h0' : ((l.length : Int) == 0) = false := beq_eq_false_iff_ne.2 (by omega)
  have h32' : ¬ (32 : Int) < (l.length : Int) := by omega
  clear h0
  go_enter Tryd.func62, Tryd.ntmps62
  go_wp2_with fail
  go_loopw [16] (fun i wr => ∃ j : Nat, j ≤ l.length ∧ i = .int .i64 j ∧ Hid (checkE l = checkGo (l.take j) (l.drop j)) ∧ Ext w wr) (fun i _ => l.length - (intOf i).toNat)
  case atStart => exact ⟨0, by omega, rfl, HE, by (show Ext _ _; repeat (first | with_reducible (refine Hid.out ?_; assumption) | with_reducible exact Ext.refl _ | with_reducible refine Ext.ext ?_ _ | with_reducible refine Ext.alloc ?_ _ | refine Ext.drew ?_ | refine Ext.drewN ?_ _ | exact Ext.refl _))⟩
  case round =>
    clear HE
    obtain ⟨j, hj, rfl, HE, r, rfl⟩ := hrel
    by_cases hjl : j < l.length
    · have hd : decide (j < l.length) = true := decide_eq_true hjl
      obtain ⟨hnl, b, o, hab, hbl, hcs⟩ := Sl.at HV.out (List.getElem?_eq_getElem hjl)
      have HX := hid (List.getElem?_eq_getElem hjl)
      have hek := HO.out l[j] (List.getElem_mem hjl)
      generalize l[j] = e at hcs HX hek
      have HK := hid hek
      subst hab
      have c0 := hcs 0 (by omega)
      have c1 := hcs 1 (by omega)
      have c2 := hcs 2 (by omega)
      have c3 := hcs 3 (by omega)
      have c4 := hcs 4 (by omega)
      have c5 := hcs 5 (by omega)
      simp [enE] at c0 c1 c2 c3 c4 c5
      have HA := hid (checkGo_at HX.out)
      clear hcs hnl hek
      by_cases hw : wrongN e = 0
      · have hw' : (wrongN e != 0) = false := by simpa using hw
        cases ha : (l.take j).any (fun y => y.loc == e.loc)
        · have HN : Hid (checkE l = checkGo (l.take (j + 1)) (l.drop (j + 1))) := hid (by rw [HE.out, HA.out, if_neg (by simpa using hw), ha]; simp)
          have HAn := hid ha
          clear ha hw
          go_wp2_with fail
          go_call (wrong_any e HK.out _) as y w' ⟨rfl, r2, rfl⟩
          go_wp2_with fail
          go_call (contains_any (l.take j) _ _ e.loc _ ((Sl.take HV.out j hj c (by omega)).of enE_len (by (show Ext _ _; repeat (first | with_reducible (refine Hid.out ?_; assumption) | with_reducible exact Ext.refl _ | with_reducible refine Ext.ext ?_ _ | with_reducible refine Ext.alloc ?_ _ | refine Ext.drew ?_ | refine Ext.drewN ?_ _ | exact Ext.refl _)))) (by simp [go_sem])) as y w' ⟨rfl, r3, rfl⟩
          rw [HAn.out]
          go_wp2_with fail
          go_roundw
          case rel => exact ⟨j + 1, by omega, by go_num, HN, by (show Ext _ _; repeat (first | with_reducible (refine Hid.out ?_; assumption) | with_reducible exact Ext.refl _ | with_reducible refine Ext.ext ?_ _ | with_reducible refine Ext.alloc ?_ _ | refine Ext.drew ?_ | refine Ext.drewN ?_ _ | exact Ext.refl _))⟩
          case measure => simp [intOf]; omega
        · have HN : Hid (checkE l = 11) := hid (by rw [HE.out, HA.out, if_neg (by simpa using hw), ha]; simp)
          have HAn := hid ha
          clear ha hw
          go_wp2_with fail
          go_call (wrong_any e HK.out _) as y w' ⟨rfl, r2, rfl⟩
          go_wp2_with fail
          go_call (contains_any (l.take j) _ _ e.loc _ ((Sl.take HV.out j hj c (by omega)).of enE_len (by (show Ext _ _; repeat (first | with_reducible (refine Hid.out ?_; assumption) | with_reducible exact Ext.refl _ | with_reducible refine Ext.ext ?_ _ | with_reducible refine Ext.alloc ?_ _ | refine Ext.drew ?_ | refine Ext.drewN ?_ _ | exact Ext.refl _)))) (by simp [go_sem])) as y w' ⟨rfl, r3, rfl⟩
          rw [HAn.out]
          go_wp2_with fail
          go_ret
          exact ⟨ret_int HN.out.symm, by (show Ext _ _; repeat (first | with_reducible (refine Hid.out ?_; assumption) | with_reducible exact Ext.refl _ | with_reducible refine Ext.ext ?_ _ | with_reducible refine Ext.alloc ?_ _ | refine Ext.drew ?_ | refine Ext.drewN ?_ _ | exact Ext.refl _))⟩
      · have HN : Hid (checkE l = wrongN e) := hid (by rw [HE.out, HA.out, if_pos hw])
        have hw' : (wrongN e != 0) = true := by simpa using hw
        clear hw
        go_wp2_with fail
        go_call (wrong_any e HK.out _) as y w' ⟨rfl, r2, rfl⟩
        go_wp2_with fail
        go_ret
        exact ⟨ret_int HN.out.symm, by (show Ext _ _; repeat (first | with_reducible (refine Hid.out ?_; assumption) | with_reducible exact Ext.refl _ | with_reducible refine Ext.ext ?_ _ | with_reducible refine Ext.alloc ?_ _ | refine Ext.drew ?_ | refine Ext.drewN ?_ _ | exact Ext.refl _))⟩
    · have hd : decide (j < l.length) = false := decide_eq_false hjl
      have HN : Hid (checkE l = 0) := hid (by rw [HE.out, List.drop_eq_nil_of_le (by omega)]; rfl)
      go_wp2_with fail
      go_ret
      exact ⟨ret_int HN.out.symm, by (show Ext _ _; repeat (first | with_reducible (refine Hid.out ?_; assumption) | with_reducible exact Ext.refl _ | with_reducible refine Ext.ext ?_ _ | with_reducible refine Ext.alloc ?_ _ | refine Ext.drew ?_ | refine Ext.drewN ?_ _ | exact Ext.refl _))⟩

end Go.Proofs.YtfijnpfhffhffaaDoor
