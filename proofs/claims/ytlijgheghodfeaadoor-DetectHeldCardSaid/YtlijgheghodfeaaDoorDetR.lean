/- Walks of the reference of layer 24: Entries (with layer 17's Check), Asked, Happened. -/
import Derived.Test.YtlijgheghodfeaaDoorDetB
namespace Go.Proofs.YtlijgheghodfeaaDoor
set_option linter.unusedSimpArgs false
set_option linter.unusedVariables false
open Go.RowKit

theorem anyTo {l : List En} {j k : Nat} {x : Int} (hk : k < j) {e : En} (h : l[k]? = some e) (hn : (e.loc == x) = false) (ha : (l.take k).any (fun y => y.loc == x) = false) : (l.take (k + 1)).any (fun y => y.loc == x) = false := by
  obtain ⟨hj, hh⟩ := List.getElem?_eq_some_iff.1 h
  rw [List.take_succ_eq_append_getElem hj, hh, List.any_append, ha]
  simpa using hn
theorem anyYes {l : List En} {j k : Nat} {x : Int} (hk : k < j) {e : En} (h : l[k]? = some e) (hn : (e.loc == x) = true) : (l.take j).any (fun y => y.loc == x) = true := by
  rw [List.any_eq_true]
  exact ⟨e, List.mem_of_getElem? (by rw [List.getElem?_take_of_lt hk]; exact h), hn⟩

set_option maxRecDepth 100000 in
set_option maxHeartbeats 4000000 in
theorem rcheck_any (l : List En) (v : Value) (hok : ∀ e ∈ l, EnOk e) (w : World) (hv : Es w v l) :
    Calls Tryd.prog 34 #[v] w fun y w' => y = .returned (.int .i64 (checkE l)) ∧ ∃ r, w' = ext w r := by
  have HV := hid hv
  have HO := hid hok
  obtain ⟨a, c, rfl, ⟨hm, hlc⟩, _⟩ := hv
  clear hok hm hlc
  by_cases h0 : l.length = 0
  · have HR := hid (show checkE l = 8 by simp [checkE, h0])
    have h0' : ((l.length : Int) == 0) = true := by rw [h0]; rfl
    clear h0
    go_enter Tryd.func34, Tryd.ntmps34
    go_wp2_with fail
    go_ret
    exact ⟨ret_int HR.out.symm, by (show Ext _ _; repeat (first | with_reducible (refine Hid.out ?_; assumption) | with_reducible exact Ext.refl _ | with_reducible refine Ext.ext ?_ _ | with_reducible refine Ext.alloc ?_ _ | refine Ext.drew ?_ | refine Ext.drewN ?_ _ | exact Ext.refl _))⟩
  have h0' : ((l.length : Int) == 0) = false := by simpa using h0
  by_cases h32 : (32 : Int) < (l.length : Int)
  · have HR := hid (show checkE l = 15 by unfold checkE; rw [if_neg h0, if_pos (by omega)])
    clear h0
    go_enter Tryd.func34, Tryd.ntmps34
    go_wp2_with fail
    go_ret
    exact ⟨ret_int HR.out.symm, by (show Ext _ _; repeat (first | with_reducible (refine Hid.out ?_; assumption) | with_reducible exact Ext.refl _ | with_reducible refine Ext.ext ?_ _ | with_reducible refine Ext.alloc ?_ _ | refine Ext.drew ?_ | refine Ext.drewN ?_ _ | exact Ext.refl _))⟩
  have HE := hid (show checkE l = checkGo (l.take 0) (l.drop 0) by unfold checkE; rw [if_neg h0, if_neg (by omega)]; simp)
  clear h0
  go_enter Tryd.func34, Tryd.ntmps34
  go_wp2_with fail
  go_loopw [3] (fun i wr => ∃ j : Nat, j ≤ l.length ∧ i = .int .i64 j ∧ Hid (checkE l = checkGo (l.take j) (l.drop j)) ∧ Hid (Ext w wr)) (fun i _ => l.length - (intOf i).toNat)
  case atStart => exact ⟨0, by omega, rfl, HE, hid (by (show Ext _ _; repeat (first | with_reducible (refine Hid.out ?_; assumption) | with_reducible exact Ext.refl _ | with_reducible refine Ext.ext ?_ _ | with_reducible refine Ext.alloc ?_ _ | refine Ext.drew ?_ | refine Ext.drewN ?_ _ | exact Ext.refl _)))⟩
  case round =>
  clear HE
  obtain ⟨j, hj, rfl, HE, HX⟩ := hrel
  by_cases hjl : j < l.length
  rotate_left
  · have hd : decide (j < l.length) = false := decide_eq_false hjl
    have HR := hid (show checkE l = 0 by rw [HE.out, List.drop_eq_nil_of_le (by omega)]; rfl)
    clear HE
    go_wp2_with fail
    go_ret
    exact ⟨ret_int HR.out.symm, HX.out.trans (by (show Ext _ _; repeat (first | with_reducible (refine Hid.out ?_; assumption) | with_reducible exact Ext.refl _ | with_reducible refine Ext.ext ?_ _ | with_reducible refine Ext.alloc ?_ _ | refine Ext.drew ?_ | refine Ext.drewN ?_ _ | exact Ext.refl _)))⟩
  have hd : decide (j < l.length) = true := decide_eq_true hjl
  have hjj : (j : Int) < (l.length : Int) := by omega
  have hx := List.getElem?_eq_getElem hjl
  generalize l[j] = e at hx
  have HA := hid (checkGo_at hx)
  have hek := HO.out e (List.mem_of_getElem? hx)
  obtain ⟨_, b0, o, hab, hbl, hcs⟩ := Sl.at HV.out hx
  subst hab
  obtain ⟨loc, val, ver, ref, new, wr1⟩ := e
  have q0 := HX.out.cell (hcs 0 (by omega))
  have q1 := HX.out.cell (hcs 1 (by omega))
  have q2 := HX.out.cell (hcs 2 (by omega))
  have q3 := HX.out.cell (hcs 3 (by omega))
  have q4 := HX.out.cell (hcs 4 (by omega))
  have q5 := HX.out.cell (hcs 5 (by omega))
  simp [enE] at q0 q1 q2 q3 q4 q5
  have HBl := hid hbl
  clear hcs hx
  by_cases hw : wrongN ⟨loc, val, ver, ref, new, wr1⟩ = 0
  rotate_left
  · have HR := hid (show checkE l = wrongN ⟨loc, val, ver, ref, new, wr1⟩ by rw [HE.out, HA.out, if_pos hw])
    clear HE HA
    have hcs : (loc < 0 ∧ wrongN ⟨loc, val, ver, ref, new, wr1⟩ = 3) ∨ (¬ loc < 0 ∧ 4096 ≤ loc ∧ wrongN ⟨loc, val, ver, ref, new, wr1⟩ = 3) ∨ (¬ loc < 0 ∧ ¬ 4096 ≤ loc ∧ (ref != 0) = true ∧ wrongN ⟨loc, val, ver, ref, new, wr1⟩ = 13)
        ∨ (¬ loc < 0 ∧ ¬ 4096 ≤ loc ∧ (ref != 0) = false ∧ wr1 = true ∧ (ver == 4294967295) = true ∧ wrongN ⟨loc, val, ver, ref, new, wr1⟩ = 9) ∨ (¬ loc < 0 ∧ ¬ 4096 ≤ loc ∧ (ref != 0) = false ∧ wr1 = false ∧ (new != val) = true ∧ wrongN ⟨loc, val, ver, ref, new, wr1⟩ = 4) := by
      unfold wrongN at hw ⊢
      dsimp only at hw ⊢
      by_cases g1 : loc < 0
      · exact .inl ⟨g1, by rw [if_pos (by omega)]⟩
      by_cases g2 : 4096 ≤ loc
      · exact .inr (.inl ⟨g1, g2, by rw [if_pos (by omega)]⟩)
      by_cases g3 : ref = 0
      · by_cases g4 : wr1 = true ∧ ver = 4294967295
        · exact .inr (.inr (.inr (.inl ⟨g1, g2, by simpa using g3, g4.1, by simpa using g4.2, by rw [if_neg (by omega), if_neg (by omega), if_pos g4]⟩)))
        · by_cases g5 : wr1 = false ∧ new ≠ val
          · exact .inr (.inr (.inr (.inr ⟨g1, g2, by simpa using g3, g5.1, by simpa using g5.2, by rw [if_neg (by omega), if_neg (by omega), if_neg g4, if_pos g5]⟩)))
          · exact absurd (by rw [if_neg (by omega), if_neg (by omega), if_neg g4, if_neg g5]) hw
      · exact .inr (.inr (.inl ⟨g1, g2, by simpa using g3, by rw [if_neg (by omega), if_pos g3]⟩))
    clear hw
    rcases hcs with ⟨g1, gw⟩ | ⟨g1, g2, gw⟩ | ⟨g1, g2, g3, gw⟩ | ⟨g1, g2, g3, rfl, g4, gw⟩ | ⟨g1, g2, g3, rfl, g4, gw⟩
    all_goals
      have HR2 := hid (HR.out.trans gw)
      clear HR gw
      go_wp2_with fail
      go_ret
      exact ⟨ret_int HR2.out.symm, HX.out.trans (by (show Ext _ _; repeat (first | with_reducible (refine Hid.out ?_; assumption) | with_reducible exact Ext.refl _ | with_reducible refine Ext.ext ?_ _ | with_reducible refine Ext.alloc ?_ _ | refine Ext.drew ?_ | refine Ext.drewN ?_ _ | exact Ext.refl _)))⟩
  have HA2 := hid (show checkE l = if (l.take j).any (fun y => y.loc == loc) = true then 11 else checkGo (l.take (j + 1)) (l.drop (j + 1)) by rw [HE.out, HA.out, if_neg (by simpa using hw)])
  clear HE HA
  obtain ⟨g1, g2, g3, g4, g5⟩ : ¬ loc < 0 ∧ ¬ 4096 ≤ loc ∧ (ref != 0) = false ∧ (wr1 = true → (ver == 4294967295) = false) ∧ (wr1 = false → (new != val) = false) := by
    unfold wrongN at hw
    dsimp only at hw
    by_cases g1 : loc < 0 ∨ 4096 ≤ loc
    · rw [if_pos g1] at hw; cases hw
    rw [if_neg g1] at hw
    by_cases g3 : ref = 0
    · rw [if_neg (by omega)] at hw
      by_cases g4 : wr1 = true ∧ ver = 4294967295
      · rw [if_pos g4] at hw; cases hw
      rw [if_neg g4] at hw
      by_cases g5 : wr1 = false ∧ new ≠ val
      · rw [if_pos g5] at hw; cases hw
      · exact ⟨by omega, by omega, by simpa using g3, fun h => by simp; intro h2; exact g4 ⟨h, h2⟩, fun h => by simp; exact Classical.byContradiction fun h2 => g5 ⟨h, h2⟩⟩
    · rw [if_pos g3] at hw; omega
  clear hw
  have hcs : (wr1 = true ∧ (ver == 4294967295) = false) ∨ (wr1 = false ∧ (new != val) = false) := by
    cases wr1
    · exact .inr ⟨rfl, g5 rfl⟩
    · exact .inl ⟨rfl, g4 rfl⟩
  clear g4 g5
  rcases hcs with ⟨rfl, g4⟩ | ⟨rfl, g4⟩
  all_goals
    go_wp2_with fail
    generalize hK : World.alloc _ _ = K
    have HEK := hid (show Ext wr K by rw [← hK]; (show Ext _ _; repeat (first | with_reducible (refine Hid.out ?_; assumption) | with_reducible exact Ext.refl _ | with_reducible refine Ext.ext ?_ _ | with_reducible refine Ext.alloc ?_ _ | refine Ext.drew ?_ | refine Ext.drewN ?_ _ | exact Ext.refl _)))
    have HXK := hid (HX.out.trans HEK.out)
    have e0 : K.cell? ⟨wr.heap.size, 0, none⟩ = some (.int .i64 loc) := by rw [← hK]; simp [go_sem]
    have e1 : wr.heap.size < K.heap.size := by rw [← hK]; simp
    generalize wr.heap.size = ne at *
    clear hK q0 q1 q2 q3 q4 q5
    go_loopw [5] (fun i wk => ∃ k : Nat, k ≤ j ∧ i = .int .i64 k ∧ Hid ((l.take k).any (fun y => y.loc == loc) = false) ∧ Hid (Ext K wk)) (fun i _ => j - (intOf i).toNat)
    case atStart => exact ⟨0, by omega, rfl, hid (by simp), hid (Ext.refl _)⟩
    case round =>
      obtain ⟨k, hk, rfl, HAn, HY⟩ := hrel
      have HXY := hid (HXK.out.trans HY.out)
      have f0 := HY.out.cell e0
      have f1 : ne < wr.heap.size := Nat.lt_of_lt_of_le e1 HY.out.size
      have f2 : b0 < wr.heap.size := Nat.lt_of_lt_of_le HBl.out HXY.out.size
      by_cases hkj : k < j
      · have hd2 : decide (k < j) = true := decide_eq_true hkj
        have hy := List.getElem?_eq_getElem (show k < l.length by omega)
        generalize l[k]'(by omega) = d at hy
        obtain ⟨geq, b1, o1, hab, hbl1, hcs⟩ := Sl.at HV.out hy
        cases hab
        obtain ⟨loc2, val2, ver2, ref2, new2, wr2⟩ := d
        have p0 := HXY.out.cell (hcs 0 (by omega))
        simp [enE] at p0
        have hkl : (k : Int) < (l.length : Int) := by omega
        cases hb : (loc2 == loc)
        · have HN := hid (anyTo hkj hy hb HAn.out)
          clear hcs hy geq hbl1
          go_wp2_with fail
          refine region_ext (by kernel_rfl) (by kernel_rfl) ?_
          repeat (go_big_quiet_step (fail))
          refine wpQuiet_nil ?_
          rintro _ ⟨r6, rfl⟩
          go_wp2_with fail
          go_roundw
          case rel => exact ⟨k + 1, by omega, by go_num, HN, hid (HY.out.trans (by (show Ext _ _; repeat (first | with_reducible (refine Hid.out ?_; assumption) | with_reducible exact Ext.refl _ | with_reducible refine Ext.ext ?_ _ | with_reducible refine Ext.alloc ?_ _ | refine Ext.drew ?_ | refine Ext.drewN ?_ _ | exact Ext.refl _))))⟩
          case measure => simp [intOf]; omega
        · have HR := hid (show checkE l = 11 by rw [HA2.out, if_pos (anyYes hkj hy hb)])
          clear hcs hy geq hbl1
          go_wp2_with fail
          refine region_ext (by kernel_rfl) (by kernel_rfl) ?_
          repeat (go_big_quiet_step (fail))
          refine wpQuiet_nil ?_
          rintro _ ⟨r6, rfl⟩
          go_wp2_with fail
          go_ret
          exact ⟨ret_int HR.out.symm, HXY.out.trans (by (show Ext _ _; repeat (first | with_reducible (refine Hid.out ?_; assumption) | with_reducible exact Ext.refl _ | with_reducible refine Ext.ext ?_ _ | with_reducible refine Ext.alloc ?_ _ | refine Ext.drew ?_ | refine Ext.drewN ?_ _ | exact Ext.refl _)))⟩
      · have hd2 : decide (k < j) = false := decide_eq_false hkj
        obtain rfl : k = j := by omega
        have HN := hid (show checkE l = checkGo (l.take (k + 1)) (l.drop (k + 1)) by rw [HA2.out, if_neg (by rw [HAn.out]; simp)])
        go_wp2_with fail
        go_roundw
        case rel => exact ⟨k + 1, by omega, by go_num, HN, hid (HXY.out.trans (by (show Ext _ _; repeat (first | with_reducible (refine Hid.out ?_; assumption) | with_reducible exact Ext.refl _ | with_reducible refine Ext.ext ?_ _ | with_reducible refine Ext.alloc ?_ _ | refine Ext.drew ?_ | refine Ext.drewN ?_ _ | exact Ext.refl _))))⟩
        case measure => simp [intOf]; omega

/-- Plain: what the reference's Entries answers. -/
def rdentN (p : Int) (was : List Wd) (n err val : Int) : List En × Int :=
  if was.length ≠ 3 then ([], 1) else if p < 0 then ([], 3) else if n < 1 ∨ err < 0 ∨ 255 < err then ([], 4)
  else match was with
    | [u, v, z] => if n ≤ u.1 then ([], 12) else if checkE (recE p u v z n err val) ≠ 0 then ([], checkE (recE p u v z n err val)) else (recE p u v z n err val, 0)
    | _ => ([], 1)
theorem dent_law (t c b x : Int) (h : checkN t c b = 0) (was : List Wd) (n err val : Int) : dentN t c b x was n err val = rdentN (recN t c b x) was n err val := by
  by_cases hl : was.length = 3
  · match was, hl with
    | [u, v, z], hl =>
      unfold dentN rdentN
      rw [if_neg (show ¬ (checkN t c b ≠ 0 ∨ [u, v, z].length ≠ 3) by rintro (g | g); exact g h; exact g hl), if_neg (show ¬ [u, v, z].length ≠ 3 by simp)]
      try rfl
  · unfold dentN rdentN
    rw [if_pos (.inr hl), if_pos hl]

set_option maxRecDepth 100000 in
set_option maxHeartbeats 4000000 in
theorem rdent_any (p : Int) (hp1 : p ≤ 30000) (was : List Wd) (wv : Value) (hok : ∀ a ∈ was, WdOk a) (n err val : Int) (hn : -9223372036854775808 ≤ n ∧ n ≤ 9223372036854775807) (he : -9223372036854775808 ≤ err ∧ err ≤ 9223372036854775807)
    (hv : -9223372036854775808 ≤ val ∧ val ≤ 9223372036854775807) (w : World) (hw : Sl w 3 wdE wv was) :
    Calls Tryd.prog 14 #[.int .i64 p, wv, .int .i64 n, .agg #[.int .i64 err, .int .i64 val]] w fun y w' => DentPost w (rdentN p was n err val) y w' := by
  have HW := hid hw
  have HO := hid hok
  have HN := hid hn
  have HEr := hid he
  have HVl := hid hv
  obtain ⟨a, cp, rfl, _, _⟩ := hw
  obtain ⟨q, hq⟩ : ∃ q, q = rdentN p was n err val := ⟨_, rfl⟩
  rw [← hq]
  have HQ := hid hq
  clear hok hn he hv hq
  by_cases h2 : was.length = 3
  rotate_left
  · have HR := hid (show q = ([], 1) by rw [HQ.out]; unfold rdentN; rw [if_pos h2])
    have hb : ((was.length : Int) != 3) = true := by simp; omega
    clear h2 HQ
    go_enter Tryd.func14, Tryd.ntmps14
    go_wp2_with fail
    go_ret2
    exact DentPost.no HR.out (by (show Ext _ _; repeat (first | with_reducible (refine Hid.out ?_; assumption) | with_reducible exact Ext.refl _ | with_reducible refine Ext.ext ?_ _ | with_reducible refine Ext.alloc ?_ _ | refine Ext.drew ?_ | refine Ext.drewN ?_ _ | exact Ext.refl _)))
  match was, h2 with
  | [u, v, z], _ =>
  have hQ2 : q = if p < 0 then ([], 3) else if n < 1 ∨ err < 0 ∨ 255 < err then ([], 4) else if n ≤ u.1 then ([], 12) else if checkE (recE p u v z n err val) ≠ 0 then ([], checkE (recE p u v z n err val)) else (recE p u v z n err val, 0) := by
    rw [HQ.out]; unfold rdentN; rw [if_neg (by simp)]
  have HQ2 := hid hQ2
  clear HQ hQ2
  by_cases h3 : p < 0
  · have HR := hid (show q = ([], 3) by rw [HQ2.out, if_pos h3])
    clear HQ2
    go_enter Tryd.func14, Tryd.ntmps14
    go_wp2_with fail
    go_ret2
    exact DentPost.no HR.out (by (show Ext _ _; repeat (first | with_reducible (refine Hid.out ?_; assumption) | with_reducible exact Ext.refl _ | with_reducible refine Ext.ext ?_ _ | with_reducible refine Ext.alloc ?_ _ | refine Ext.drew ?_ | refine Ext.drewN ?_ _ | exact Ext.refl _)))
  have HQ4 := hid (show q = if n < 1 ∨ err < 0 ∨ 255 < err then ([], 4) else if n ≤ u.1 then ([], 12) else if checkE (recE p u v z n err val) ≠ 0 then ([], checkE (recE p u v z n err val)) else (recE p u v z n err val, 0) by rw [HQ2.out, if_neg h3])
  clear HQ2
  obtain ⟨b0, o0, rfl, hbl, hcs⟩ : ∃ b0 o0, a = some ⟨b0, o0, none⟩ ∧ b0 < w.heap.size ∧ ∀ i y, [u, v, z][i]? = some y → ∀ j, j < 3 → w.cell? ⟨b0, o0 + i * 3 + j, none⟩ = (wdE y)[j]? := by
    obtain ⟨_, b0, o0, h1, h2, _⟩ := Sl.at HW.out (i := 0) (x := u) rfl
    refine ⟨b0, o0, h1, h2, fun i y hy => ?_⟩
    obtain ⟨_, b1, o1, g1, _, g3⟩ := Sl.at HW.out hy
    rw [h1] at g1
    cases g1
    exact g3
  have k0 := hcs 0 u rfl 0 (by omega)
  simp [wdE] at k0
  have HCs := hid hcs
  have hp0 : 0 ≤ p := by omega
  clear hcs
  go_enter Tryd.func14, Tryd.ntmps14
  by_cases h4 : n < 1 ∨ err < 0 ∨ 255 < err
  · have HR := hid (show q = ([], 4) by rw [HQ4.out, if_pos h4])
    have hcs : n < 1 ∨ (¬ n < 1 ∧ err < 0) ∨ (¬ n < 1 ∧ ¬ err < 0 ∧ 255 < err) := by omega
    clear h4 HQ4
    rcases hcs with h5 | ⟨h5, h6⟩ | ⟨h5, h6, h7⟩
    all_goals
      go_wp2_with fail
      go_ret2
      exact DentPost.no HR.out (by (show Ext _ _; repeat (first | with_reducible (refine Hid.out ?_; assumption) | with_reducible exact Ext.refl _ | with_reducible refine Ext.ext ?_ _ | with_reducible refine Ext.alloc ?_ _ | refine Ext.drew ?_ | refine Ext.drewN ?_ _ | exact Ext.refl _)))
  have h5 : ¬ n < 1 := by omega
  have h6 : ¬ err < 0 := by omega
  have h7 : ¬ 255 < err := by omega
  by_cases h8 : n ≤ u.1
  · have HR := hid (show q = ([], 12) by rw [HQ4.out, if_neg h4, if_pos h8])
    clear h4 HQ4
    go_wp2_with fail
    go_ret2
    exact DentPost.no HR.out (by (show Ext _ _; repeat (first | with_reducible (refine Hid.out ?_; assumption) | with_reducible exact Ext.refl _ | with_reducible refine Ext.ext ?_ _ | with_reducible refine Ext.alloc ?_ _ | refine Ext.drew ?_ | refine Ext.drewN ?_ _ | exact Ext.refl _)))
  have HQ3 := hid (show q = if checkE (recE p u v z n err val) ≠ 0 then ([], checkE (recE p u v z n err val)) else (recE p u v z n err val, 0) by rw [HQ4.out, if_neg h4, if_neg h8])
  clear h4 HQ4
  go_wp2_with fail
  generalize hU : World.alloc _ _ = U
  have HEU := hid (show Ext w U by rw [← hU]; (show Ext _ _; repeat (first | with_reducible (refine Hid.out ?_; assumption) | with_reducible exact Ext.refl _ | with_reducible refine Ext.ext ?_ _ | with_reducible refine Ext.alloc ?_ _ | refine Ext.drew ?_ | refine Ext.drewN ?_ _ | exact Ext.refl _)))
  have HBg := hid (show Blk U (w.heap.size + 1) [.int .i64 n, .int .i64 val, .int .i64 err] by rw [← hU]; (show Blk _ _ _; repeat (first | with_reducible (refine Hid.out ?_; assumption) | with_reducible refine Blk.drew ?_ | with_reducible refine Blk.ext ?_ _ | (with_reducible refine Blk.new _ _ rfl ?_; first | with_reducible rfl | (simp; done)) | with_reducible refine Blk.alloc ?_ _ | with_reducible assumption | with_reducible apply Blk.setE | (with_reducible refine Blk.other' ?_ ?_; first | omega | (simp; omega)) | (show List.set _ _ _ = _; exact rfl) | (show _ < List.length _; simp; done))))
  generalize w.heap.size + 1 = g at *
  have HOk3 := hid (recE_ok ⟨hp0, hp1⟩ (HO.out u (by simp)) (HO.out v (by simp)) (HO.out z (by simp)) HN.out HEr.out HVl.out)
  clear hU k0
  go_loopw [11, 12] (fun o i wr => ∃ j : Nat, j ≤ 3 ∧ i = .int .i64 j ∧ Hid (Own wr U.heap.size 46 6 enE o ((recE p u v z n err val).take j)) ∧ Hid (Ext U wr)) (fun _ i _ => 3 - (intOf i).toNat)
  case atStart => exact ⟨0, by omega, rfl, hid Own.nil, hid (Ext.refl _)⟩
  case round =>
  obtain ⟨j, hj, rfl, HOw, HX⟩ := hrel
  have HXw := hid (HEU.out.trans HX.out)
  obtain ⟨ao, co, rfl⟩ := Own.shape HOw.out
  by_cases hj3 : j < 3
  · have hjj : (j : Int) < 3 := by omega
    obtain ⟨d, hd⟩ : ∃ d, (recE p u v z n err val)[j]? = some d := ⟨_, List.getElem?_eq_getElem (by show j < 3; exact hj3)⟩
    obtain ⟨y, hy⟩ : ∃ y, [u, v, z][j]? = some y := ⟨_, List.getElem?_eq_getElem (by show j < 3; exact hj3)⟩
    obtain ⟨f, hf⟩ : ∃ f, [n, val, err][j]? = some f := ⟨_, List.getElem?_eq_getElem (by show j < 3; exact hj3)⟩
    have hde : d = ⟨p + j, y.1, y.2.1, y.2.2, f, true⟩ := by
      have hcj : j = 0 ∨ j = 1 ∨ j = 2 := by omega
      rcases hcj with rfl | rfl | rfl <;> simp [recE] at hd hy hf <;> subst hd hy hf <;> simp
    have q0u : U.cell? ⟨g, j, none⟩ = some (.int .i64 f) := by
      refine HBg.out.2.2 j _ ?_
      have hcj : j = 0 ∨ j = 1 ∨ j = 2 := by omega
      rcases hcj with rfl | rfl | rfl <;> simp at hf <;> subst hf <;> rfl
    have hwj : IntKind.i64.wrap (p + j) = p + j := IntWalk.i64_in _ (by omega)
    have HA := hid (show (recE p u v z n err val).take (j + 1) = (recE p u v z n err val).take j ++ [⟨p + j, y.1, y.2.1, y.2.2, f, true⟩] by
      obtain ⟨h1, h2⟩ := List.getElem?_eq_some_iff.1 hd
      rw [List.take_succ_eq_append_getElem h1, h2, hde])
    have m0u := HEU.out.cell (HCs.out j y hy 0 (by omega))
    have m1u := HEU.out.cell (HCs.out j y hy 1 (by omega))
    have m2u := HEU.out.cell (HCs.out j y hy 2 (by omega))
    obtain ⟨y1, y2, y3⟩ := y
    simp [wdE] at m0u m1u m2u
    have hUw := HX.out.size
    have q0 := HX.out.cell q0u
    have m0 := HX.out.cell m0u
    have m1 := HX.out.cell m1u
    have m2 := HX.out.cell m2u
    have hln : ((recE p u v z n err val).take j).length = j := by rw [List.length_take]; show min j 3 = j; omega
    have HLn := hid hln
    have HO2 := hid (show Own wr U.heap.size 46 6 enE (.slice ao j co) ((recE p u v z n err val).take j) by have := HOw.out; rw [hln] at this; exact this)
    rw [hln]
    clear hd hy hf hde hln
    go_wp2_with fail
    refine wp_region_held_drew (S := fun w' => w'.cell? ⟨g, j, none⟩ = some (.int .i64 f) ∧ (w'.cell? ⟨b0, o0 + j * 3, none⟩ = some (.int .i64 y1) ∧ w'.cell? ⟨b0, o0 + j * 3 + 1, none⟩ = some (.int .u32 y2) ∧ w'.cell? ⟨b0, o0 + j * 3 + 2, none⟩ = some (.int .u32 y3))) (by kernel_rfl) (by exact ⟨(show Ext U _ by (show Ext _ _; repeat (first | with_reducible (refine Hid.out ?_; assumption) | with_reducible exact Ext.refl _ | with_reducible refine Ext.ext ?_ _ | with_reducible refine Ext.alloc ?_ _ | with_reducible refine Ext.drew ?_ | with_reducible refine Ext.setCell ?_ (by (try dsimp only); first | omega | (simp; done) | (simp; omega)) _))).cell q0u, (show Ext U _ by (show Ext _ _; repeat (first | with_reducible (refine Hid.out ?_; assumption) | with_reducible exact Ext.refl _ | with_reducible refine Ext.ext ?_ _ | with_reducible refine Ext.alloc ?_ _ | with_reducible refine Ext.drew ?_ | with_reducible refine Ext.setCell ?_ (by (try dsimp only); first | omega | (simp; done) | (simp; omega)) _))).cell m0u, (show Ext U _ by (show Ext _ _; repeat (first | with_reducible (refine Hid.out ?_; assumption) | with_reducible exact Ext.refl _ | with_reducible refine Ext.ext ?_ _ | with_reducible refine Ext.alloc ?_ _ | with_reducible refine Ext.drew ?_ | with_reducible refine Ext.setCell ?_ (by (try dsimp only); first | omega | (simp; done) | (simp; omega)) _))).cell m1u, (show Ext U _ by (show Ext _ _; repeat (first | with_reducible (refine Hid.out ?_; assumption) | with_reducible exact Ext.refl _ | with_reducible refine Ext.ext ?_ _ | with_reducible refine Ext.alloc ?_ _ | with_reducible refine Ext.drew ?_ | with_reducible refine Ext.setCell ?_ (by (try dsimp only); first | omega | (simp; done) | (simp; omega)) _))).cell m2u⟩) (fun hHeld => ?_)
    refine take_met 0 (oi := ⟨_, _, _, _, _, _⟩) (v := ?_) (by kernel_rfl) rfl (by rfl) (fun _ _ _ h => h) (by assumption) ?_ ?_
    rotate_left 1
    · intro w hSw
      try dsimp only at hSw
      go_simp
      try with_reducible rfl
    (try simp only [Act.put, List.setIfInBounds_toArray, List.set_cons_zero, List.set_cons_succ])
    refine take_met 1 (oi := ⟨_, _, _, _, _, _⟩) (v := ?_) (by kernel_rfl) rfl (by rfl) (fun _ _ _ h => h) (by assumption) ?_ ?_
    rotate_left 1
    · intro w hSw
      try dsimp only at hSw
      go_simp
      try with_reducible rfl
    (try simp only [Act.put, List.setIfInBounds_toArray, List.set_cons_zero, List.set_cons_succ])
    refine take_met 2 (oi := ⟨_, _, _, _, _, _⟩) (v := ?_) (by kernel_rfl) rfl (by rfl) (fun _ _ _ h => h) (by assumption) ?_ ?_
    rotate_left 1
    · intro w hSw
      try dsimp only at hSw
      go_simp
      try with_reducible rfl
    (try simp only [Act.put, List.setIfInBounds_toArray, List.set_cons_zero, List.set_cons_succ])
    refine take_met 3 (oi := ⟨_, _, _, _, _, _⟩) (v := ?_) (by kernel_rfl) rfl (by rfl) (fun _ _ _ h => h) (by assumption) ?_ ?_
    rotate_left 1
    · intro w hSw
      try dsimp only at hSw
      go_simp
      try with_reducible rfl
    (try simp only [Act.put, List.setIfInBounds_toArray, List.set_cons_zero, List.set_cons_succ])
    refine take_met 4 (oi := ⟨_, _, _, _, _, _⟩) (v := ?_) (by kernel_rfl) rfl (by rfl) (fun _ _ _ h => h) (by assumption) ?_ ?_
    rotate_left 1
    · intro w hSw
      try dsimp only at hSw
      go_simp
      try with_reducible rfl
    (try simp only [Act.put, List.setIfInBounds_toArray, List.set_cons_zero, List.set_cons_succ])
    refine take_met 5 (oi := ⟨_, _, _, _, _, _⟩) (v := ?_) (by kernel_rfl) rfl (by rfl) (fun _ _ _ h => h) (by assumption) ?_ ?_
    rotate_left 1
    · intro w hSw
      try dsimp only at hSw
      go_simp
      try with_reducible rfl
    (try simp only [Act.put, List.setIfInBounds_toArray, List.set_cons_zero, List.set_cons_succ])
    refine take_met 6 (oi := ⟨_, _, _, _, _, _⟩) (v := ?_) (by kernel_rfl) rfl (by rfl) (fun _ _ _ h => h) (by assumption) ?_ ?_
    rotate_left 1
    · intro w hSw
      try dsimp only at hSw
      go_simp
      try with_reducible rfl
    (try simp only [Act.put, List.setIfInBounds_toArray, List.set_cons_zero, List.set_cons_succ])
    refine take_met 7 (oi := ⟨_, _, _, _, _, _⟩) (v := ?_) (by kernel_rfl) rfl (by rfl) (fun _ _ _ h => h) (by assumption) ?_ ?_
    rotate_left 1
    · intro w hSw
      try dsimp only at hSw
      go_simp
      try with_reducible rfl
    (try simp only [Act.put, List.setIfInBounds_toArray, List.set_cons_zero, List.set_cons_succ])
    refine take_met 8 (oi := ⟨_, _, _, _, _, _⟩) (v := ?_) (by kernel_rfl) rfl (by rfl) (fun _ _ _ h => h) (by assumption) ?_ ?_
    rotate_left 1
    · intro w hSw
      try dsimp only at hSw
      go_simp
      try with_reducible rfl
    (try simp only [Act.put, List.setIfInBounds_toArray, List.set_cons_zero, List.set_cons_succ])
    refine take_met 9 (oi := ⟨_, _, _, _, _, _⟩) (v := ?_) (by kernel_rfl) rfl (by rfl) (fun _ _ _ h => h) (by assumption) ?_ ?_
    rotate_left 1
    · intro w hSw
      try dsimp only at hSw
      go_simp
      try with_reducible rfl
    (try simp only [Act.put, List.setIfInBounds_toArray, List.set_cons_zero, List.set_cons_succ])
    refine take_met 10 (oi := ⟨_, _, _, _, _, _⟩) (v := ?_) (by kernel_rfl) rfl (by rfl) (fun _ _ _ h => h) (by assumption) ?_ ?_
    rotate_left 1
    · intro w hSw
      try dsimp only at hSw
      go_simp
      try with_reducible rfl
    (try simp only [Act.put, List.setIfInBounds_toArray, List.set_cons_zero, List.set_cons_succ])
    refine take_met 11 (oi := ⟨_, _, _, _, _, _⟩) (v := ?_) (by kernel_rfl) rfl (by rfl) (fun _ _ _ h => h) (by assumption) ?_ ?_
    rotate_left 1
    · intro w hSw
      try dsimp only at hSw
      go_simp
      try with_reducible rfl
    (try simp only [Act.put, List.setIfInBounds_toArray, List.set_cons_zero, List.set_cons_succ])
    refine take_only 12 (oi := ⟨_, _, _, _, _, _⟩) (by kernel_rfl) rfl (fun K hK => ?_)
    go_simp
    have hOld := hHeld
    clear hHeld
    refine hK.out _ _ (by exact ⟨(show Ext U _ by (show Ext _ _; repeat (first | with_reducible (refine Hid.out ?_; assumption) | with_reducible exact Ext.refl _ | with_reducible refine Ext.ext ?_ _ | with_reducible refine Ext.alloc ?_ _ | with_reducible refine Ext.drew ?_ | with_reducible refine Ext.setCell ?_ (by (try dsimp only); first | omega | (simp; done) | (simp; omega)) _))).cell q0u, (show Ext U _ by (show Ext _ _; repeat (first | with_reducible (refine Hid.out ?_; assumption) | with_reducible exact Ext.refl _ | with_reducible refine Ext.ext ?_ _ | with_reducible refine Ext.alloc ?_ _ | with_reducible refine Ext.drew ?_ | with_reducible refine Ext.setCell ?_ (by (try dsimp only); first | omega | (simp; done) | (simp; omega)) _))).cell m0u, (show Ext U _ by (show Ext _ _; repeat (first | with_reducible (refine Hid.out ?_; assumption) | with_reducible exact Ext.refl _ | with_reducible refine Ext.ext ?_ _ | with_reducible refine Ext.alloc ?_ _ | with_reducible refine Ext.drew ?_ | with_reducible refine Ext.setCell ?_ (by (try dsimp only); first | omega | (simp; done) | (simp; omega)) _))).cell m1u, (show Ext U _ by (show Ext _ _; repeat (first | with_reducible (refine Hid.out ?_; assumption) | with_reducible exact Ext.refl _ | with_reducible refine Ext.ext ?_ _ | with_reducible refine Ext.alloc ?_ _ | with_reducible refine Ext.drew ?_ | with_reducible refine Ext.setCell ?_ (by (try dsimp only); first | omega | (simp; done) | (simp; omega)) _))).cell m2u⟩) (fun hHeld => ?_)
    clear hOld hK K
    (try simp only [Act.put, List.setIfInBounds_toArray, List.set_cons_zero, List.set_cons_succ])
    refine take_only 13 (oi := ⟨_, _, _, _, _, _⟩) (by kernel_rfl) rfl (fun K hK => ?_)
    rw [if_pos (by rfl)]
    first
      | (refine es_append_op _ _ rfl U (by (show Ext _ _; repeat (first | with_reducible (refine Hid.out ?_; assumption) | with_reducible exact Ext.refl _ | with_reducible refine Ext.ext ?_ _ | with_reducible refine Ext.alloc ?_ _ | refine Ext.drew ?_ | refine Ext.drewN ?_ _ | exact Ext.refl _))) (Nat.le_refl _) (by (first | exact Nat.le_refl _ | (simp; done) | (simp; omega))) rfl ((HO2.out.drew).alloc _) _ 1 1 rfl [⟨p + j, y1, y2, y3, f, true⟩] rfl (news_new rfl _ (by (first | rfl | (simp; done)))) (by rw [HLn.out]; omega) ?_; rintro v' r' hv')
    have hOld := hHeld
    clear hHeld
    refine hK.out _ _ (by exact ⟨(show Ext U _ by (show Ext _ _; repeat (first | with_reducible (refine Hid.out ?_; assumption) | with_reducible exact Ext.refl _ | with_reducible refine Ext.ext ?_ _ | with_reducible refine Ext.alloc ?_ _ | with_reducible refine Ext.drew ?_ | with_reducible refine Ext.setCell ?_ (by (try dsimp only); first | omega | (simp; done) | (simp; omega)) _))).cell q0u, (show Ext U _ by (show Ext _ _; repeat (first | with_reducible (refine Hid.out ?_; assumption) | with_reducible exact Ext.refl _ | with_reducible refine Ext.ext ?_ _ | with_reducible refine Ext.alloc ?_ _ | with_reducible refine Ext.drew ?_ | with_reducible refine Ext.setCell ?_ (by (try dsimp only); first | omega | (simp; done) | (simp; omega)) _))).cell m0u, (show Ext U _ by (show Ext _ _; repeat (first | with_reducible (refine Hid.out ?_; assumption) | with_reducible exact Ext.refl _ | with_reducible refine Ext.ext ?_ _ | with_reducible refine Ext.alloc ?_ _ | with_reducible refine Ext.drew ?_ | with_reducible refine Ext.setCell ?_ (by (try dsimp only); first | omega | (simp; done) | (simp; omega)) _))).cell m1u, (show Ext U _ by (show Ext _ _; repeat (first | with_reducible (refine Hid.out ?_; assumption) | with_reducible exact Ext.refl _ | with_reducible refine Ext.ext ?_ _ | with_reducible refine Ext.alloc ?_ _ | with_reducible refine Ext.drew ?_ | with_reducible refine Ext.setCell ?_ (by (try dsimp only); first | omega | (simp; done) | (simp; omega)) _))).cell m2u⟩) (fun hHeld => ?_)
    clear hOld hK K
    (try simp only [Act.put, List.setIfInBounds_toArray, List.set_cons_zero, List.set_cons_succ])
    refine take_met 14 (oi := ⟨_, _, _, _, _, _⟩) (v := ?_) (by kernel_rfl) rfl (by rfl) (fun _ _ _ h => h) (by assumption) ?_ ?_
    rotate_left 1
    · intro w hSw
      try dsimp only at hSw
      go_simp
      try with_reducible rfl
    (try simp only [Act.put, List.setIfInBounds_toArray, List.set_cons_zero, List.set_cons_succ])
    refine wpAnyH_done (by kernel_rfl) ?_ _
    go_wp2_with fail
    go_roundw
    case rel => exact ⟨j + 1, by omega, by go_num, hid (by rw [HA.out]; exact hv'), hid (by (show Ext _ _; repeat (first | with_reducible (refine Hid.out ?_; assumption) | with_reducible exact Ext.refl _ | with_reducible refine Ext.ext ?_ _ | with_reducible refine Ext.alloc ?_ _ | refine Ext.drew ?_ | refine Ext.drewN ?_ _ | exact Ext.refl _)))⟩
    case measure => simp [intOf]; omega
  · obtain rfl : j = 3 := by omega
    have ht3 : (recE p u v z n err val).take 3 = recE p u v z n err val := rfl
    rw [ht3] at HOw ⊢
    have hl3 : (recE p u v z n err val).length = 3 := rfl
    rw [hl3] at HOw ⊢
    clear hj hj3 ht3 hl3
    go_wp2_with fail
    refine (rcheck_any (recE p u v z n err val) _ HOk3.out _ ((Sl.of_own enE_len HOw.out).of enE_len (by (show Ext _ _; repeat (first | with_reducible (refine Hid.out ?_; assumption) | with_reducible exact Ext.refl _ | with_reducible refine Ext.ext ?_ _ | with_reducible refine Ext.alloc ?_ _ | refine Ext.drew ?_ | refine Ext.drewN ?_ _ | exact Ext.refl _))))).mono ?_
    rintro e w' ⟨rfl, r3, rfl⟩
    by_cases hc : checkE (recE p u v z n err val) = 0
    · have HR := hid (show q = (recE p u v z n err val, 0) by rw [HQ3.out, if_neg (by rw [hc]; simp)])
      rw [hc]
      clear hc HQ3
      go_wp2_with fail
      go_ret2
      exact DentPost.yes HR.out (HXw.out.trans (by (show Ext _ _; repeat (first | with_reducible (refine Hid.out ?_; assumption) | with_reducible exact Ext.refl _ | with_reducible refine Ext.ext ?_ _ | with_reducible refine Ext.alloc ?_ _ | refine Ext.drew ?_ | refine Ext.drewN ?_ _ | exact Ext.refl _)))) (Own.mono (HOw.out.ext r3) HEU.out.size)
    · have HR := hid (show q = ([], checkE (recE p u v z n err val)) by rw [HQ3.out, if_pos hc])
      obtain ⟨ce, hce⟩ : ∃ e, e = checkE (recE p u v z n err val) := ⟨_, rfl⟩
      rw [← hce] at hc HR ⊢
      have hb : (ce != 0) = true := by simpa using hc
      clear hc HQ3 hce
      go_wp2_with fail
      go_ret2
      exact DentPost.no HR.out (HXw.out.trans (by (show Ext _ _; repeat (first | with_reducible (refine Hid.out ?_; assumption) | with_reducible exact Ext.refl _ | with_reducible refine Ext.ext ?_ _ | with_reducible refine Ext.alloc ?_ _ | refine Ext.drew ?_ | refine Ext.drewN ?_ _ | exact Ext.refl _))))

end Go.Proofs.YtlijgheghodfeaaDoor
