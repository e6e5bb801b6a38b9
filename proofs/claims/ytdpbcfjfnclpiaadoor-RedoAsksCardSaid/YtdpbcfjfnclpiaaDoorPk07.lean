/- Walks of the reference of descriptors: May, Right. -/
import Derived.Test.YtdpbcfjfnclpiaaDoorPk06
import Derived.Test.YtdpbcfjfnclpiaaDoorPk05
namespace Go.Proofs.YtdpbcfjfnclpiaaDoor
set_option linter.unusedSimpArgs false
set_option linter.unusedVariables false
open Go.RowKit
def rmayB (ws : List Bool) (p : Int) : Bool := decide (0 ≤ p ∧ p < (ws.length : Int)) && ws.getD p.toNat false
set_option maxHeartbeats 1000000 in
theorem rmay_any (T B sl rm p1 p2 sz : Int) (ws : List Bool) (v : Value) (p : Int) (w : World) (hv : Sl w 1 boE v ws) :
 Calls Tryd.prog 78 #[.agg #[.int .i64 T, .int .i64 B, .int .i64 sl, .int .i64 rm, .int .i64 p1, .int .i64 p2, v, .int .i64 sz], .int .i64 p] w fun e w' => e = .returned (.bool (rmayB ws p)) ∧ ∃ r, w' = ext w r := by
 have HV := hid hv
 obtain ⟨a, c, rfl, ⟨hm, hlc⟩, _⟩ := hv
 by_cases h0 : 0 ≤ p
 rotate_left
 ·have HR := hid (show rmayB ws p = false by unfold rmayB; rw [decide_eq_false (by omega)]; rfl)
  go_enter Tryd.func78, Tryd.ntmps78
  go_wp2_with fail
  go_ret
  exact ⟨ret_bool HR.out.symm, by (show Ext _ _; repeat first | (with_reducible first | (refine xH ?_; assumption) | exact xR _ | refine xX ?_ _ | refine xA ?_ _) | refine xD ?_ | refine xN ?_ _ | exact xR _)⟩
 obtain ⟨n, rfl⟩ := Int.eq_ofNat_of_zero_le h0
 by_cases h1 : n < ws.length
 rotate_left
 ·have HR := hid (show rmayB ws n = false by unfold rmayB; rw [decide_eq_false (by omega)]; rfl)
  have hd : decide (n < ws.length) = false := decide_eq_false h1
  go_enter Tryd.func78, Tryd.ntmps78
  go_wp2_with fail
  go_ret
  exact ⟨ret_bool HR.out.symm, by (show Ext _ _; repeat first | (with_reducible first | (refine xH ?_; assumption) | exact xR _ | refine xX ?_ _ | refine xA ?_ _) | refine xD ?_ | refine xN ?_ _ | exact xR _)⟩
 have hx := List.getElem?_eq_getElem h1
 generalize ws[n] = x at hx
 obtain ⟨q0, bb, oo, hab, hbl, hcs⟩ := Sl.at HV.out hx
 subst hab
 have k0 := hcs 0 (by omega)
 simp [boE] at k0
 have HR := hid (show rmayB ws n = x by unfold rmayB; rw [decide_eq_true (by omega), Int.toNat_natCast, List.getD_eq_getElem?_getD, hx]; rfl)
 have hd : decide (n < ws.length) = true := decide_eq_true h1
 clear hcs hx q0
 go_enter Tryd.func78, Tryd.ntmps78
 go_wp2_with fail
 go_ret
 exact ⟨ret_bool HR.out.symm, by (show Ext _ _; repeat first | (with_reducible first | (refine xH ?_; assumption) | exact xR _ | refine xX ?_ _ | refine xA ?_ _) | refine xD ?_ | refine xN ?_ _ | exact xR _)⟩
def rbadB (q : Option En) (e : En) : Bool :=
 decide (e.loc < 0) || decide (4096 ≤ e.loc) || (match q with | some y => decide (e.loc ≤ y.loc) | none => false) || decide (e.ref ≠ 0) || (e.wr && decide (e.ver = 4294967295)) || (!e.wr && decide (e.new ≠ e.val))
def rightGo (q : Option En) : List En → Bool
 | [] => true
 | e :: r => !rbadB q e && rightGo (some e) r
def rightB (es : List En) : Bool := rightGo none es && decide (1 ≤ es.length ∧ es.length ≤ 32)
def prevE (es : List En) (j : Nat) : Option En := if j = 0 then none else es[j - 1]?
theorem rightGo_at {es : List En} {j : Nat} {e : En} (h : es[j]? = some e) : rightGo (prevE es j) (es.drop j) = (!rbadB (prevE es j) e && rightGo (prevE es (j + 1)) (es.drop (j + 1))) := by
 obtain ⟨hj, hk⟩ := List.getElem?_eq_some_iff.1 h
 have hp : prevE es (j + 1) = some e := by unfold prevE; rw [if_neg (by omega), Nat.add_sub_cancel, h]
 rw [List.drop_eq_getElem_cons hj, hk, hp]; rfl
set_option maxRecDepth 100000 in
set_option maxHeartbeats 4000000 in
theorem rright_any (es : List En) (v : Value) (w : World) (hv : Es w v es) (h32 : es.length ≤ 1000) :
 Calls Tryd.prog 77 #[v] w fun e w' => e = .returned (.bool (rightB es)) ∧ ∃ r, w' = ext w r := by
 have HV := hid hv
 obtain ⟨a, c, rfl, ⟨hm, hlc⟩, _⟩ := hv
 clear hm hlc
 have H0 := hid (show rightB es = (rightGo (prevE es 0) (es.drop 0) && decide (1 ≤ es.length ∧ es.length ≤ 32)) from rfl)
 go_enter Tryd.func77, Tryd.ntmps77
 go_wp2_with fail
 go_loopw [3] (fun i wr => ∃ j : Nat, j ≤ es.length ∧ i = .int .i64 j ∧ Hid (rightB es = (rightGo (prevE es j) (es.drop j) && decide (1 ≤ es.length ∧ es.length ≤ 32))) ∧ Hid (Ext w wr)) (fun i _ => es.length - (intOf i).toNat)
 case atStart => exact ⟨0, by omega, rfl, H0, hid (by (show Ext _ _; repeat first | (with_reducible first | (refine xH ?_; assumption) | exact xR _ | refine xX ?_ _ | refine xA ?_ _) | refine xD ?_ | refine xN ?_ _ | exact xR _))⟩
 case round =>
  clear H0
  obtain ⟨j, hj, rfl, H0, HX⟩ := hrel
  by_cases hjl : j < es.length
  rotate_left
  ·have hd : decide (j < es.length) = false := decide_eq_false hjl
   have HR := hid (show rightB es = decide (1 ≤ es.length ∧ es.length ≤ 32) by rw [H0.out, List.drop_eq_nil_of_le (by omega)]; simp [rightGo])
   clear H0
   by_cases h1 : 1 ≤ es.length
   ·by_cases h2 : es.length ≤ 32
    ·have g1 : (1 : Int) ≤ (es.length : Int) := by omega
     have g2 : (es.length : Int) ≤ 32 := by omega
     go_wp2_with fail
     go_ret
     exact ⟨ret_bool (by rw [HR.out]; simp [h1, h2]), by (show Ext _ _; repeat first | (with_reducible first | (refine xH ?_; assumption) | exact xR _ | refine xX ?_ _ | refine xA ?_ _) | refine xD ?_ | refine xN ?_ _ | exact xR _)⟩
    ·have g1 : (1 : Int) ≤ (es.length : Int) := by omega
     have g2 : ¬ (es.length : Int) ≤ 32 := by omega
     go_wp2_with fail
     go_ret
     exact ⟨ret_bool (by rw [HR.out]; simp [h1, h2]), by (show Ext _ _; repeat first | (with_reducible first | (refine xH ?_; assumption) | exact xR _ | refine xX ?_ _ | refine xA ?_ _) | refine xD ?_ | refine xN ?_ _ | exact xR _)⟩
   ·have g1 : ¬ (1 : Int) ≤ (es.length : Int) := by omega
    go_wp2_with fail
    go_ret
    exact ⟨ret_bool (by rw [HR.out]; simp [h1]), by (show Ext _ _; repeat first | (with_reducible first | (refine xH ?_; assumption) | exact xR _ | refine xX ?_ _ | refine xA ?_ _) | refine xD ?_ | refine xN ?_ _ | exact xR _)⟩
  have hd : decide (j < es.length) = true := decide_eq_true hjl
  have hx := List.getElem?_eq_getElem hjl
  generalize es[j] = x at hx
  have HA := hid (rightGo_at hx)
  obtain ⟨q0, b, o, hab, hbl, hcs⟩ := Sl.at (HV.out.of enE_len HX.out) hx
  subst hab
  obtain ⟨x0, x1, x2, x3, x4, x5⟩ := x
  have p0 := hcs 0 (by omega)
  have p1 := hcs 1 (by omega)
  have p2 := hcs 2 (by omega)
  have p3 := hcs 3 (by omega)
  have p4 := hcs 4 (by omega)
  have p5 := hcs 5 (by omega)
  simp [enE] at p0 p1 p2 p3 p4 p5
  clear hcs q0 hx
  have hbx := Nat.lt_of_lt_of_le hbl (Nat.le_refl _)
  have hjb : (j : Int) ≤ 1000 := by omega
  by_cases h0 : j = 0
  ·have hj0 : decide ((0 : Int) < (j : Int)) = false := decide_eq_false (by omega)
   have hj0' : ¬ 0 < j := by omega
   have hj0'' : decide (0 < j) = false := decide_eq_false hj0'
   have HPr := hid (show prevE es j = none by unfold prevE; rw [if_pos h0])
   clear h0
   have hcs : (decide (x0 < 0) = true) ∨ (decide (x0 < 0) = false ∧ decide (4096 ≤ x0) = true) ∨ (decide (x0 < 0) = false ∧ decide (4096 ≤ x0) = false ∧ (x3 != 0) = true) ∨ (decide (x0 < 0) = false ∧ decide (4096 ≤ x0) = false ∧ x3 = 0 ∧ x5 = true ∧ (x2 == 4294967295) = true) ∨ (decide (x0 < 0) = false ∧ decide (4096 ≤ x0) = false ∧ x3 = 0 ∧ x5 = false ∧ (x4 != x1) = true) ∨ (decide (x0 < 0) = false ∧ decide (4096 ≤ x0) = false ∧ x3 = 0 ∧ x5 = true ∧ (x2 == 4294967295) = false) ∨ (decide (x0 < 0) = false ∧ decide (4096 ≤ x0) = false ∧ x3 = 0 ∧ x5 = false ∧ (x4 != x1) = false) := by
    cases x5 <;> by_cases z1 : x0 < 0 <;> by_cases z2 : 4096 ≤ x0 <;> by_cases z4 : x3 = 0 <;> by_cases z5 : x2 = 4294967295 <;> by_cases z6 : x4 = x1 <;> simp [z1, z2, z4, z5, z6]
   rcases hcs with h1 | ⟨h1, h2⟩ | ⟨h1, h2, h4⟩ | ⟨h1, h2, h4, h5, h6⟩ | ⟨h1, h2, h4, h5, h6⟩ | ⟨h1, h2, h4, h5, h6⟩ | ⟨h1, h2, h4, h5, h6⟩
   ·have HR := hid (show rightB es = false by rw [H0.out, HA.out, HPr.out, show rbadB (none) ⟨x0, x1, x2, x3, x4, x5⟩ = true by (try simp at h1); simp [rbadB, h1]]; rfl)
    clear HA H0
    go_wp2_with fail
    refine region_ext (by kernel_rfl) (by kernel_rfl) ?_
    repeat (go_big_quiet_step (fail))
    refine wpQuiet_nil ?_
    rintro _ ⟨r4, rfl⟩
    go_wp2_with fail
    go_ret
    exact ⟨ret_bool HR.out.symm, HX.out.trans (by (show Ext _ _; repeat first | (with_reducible first | (refine xH ?_; assumption) | exact xR _ | refine xX ?_ _ | refine xA ?_ _) | refine xD ?_ | refine xN ?_ _ | exact xR _))⟩
   ·have HR := hid (show rightB es = false by rw [H0.out, HA.out, HPr.out, show rbadB (none) ⟨x0, x1, x2, x3, x4, x5⟩ = true by (try simp at h1 h2); simp [rbadB, h1, h2]]; rfl)
    clear HA H0
    go_wp2_with fail
    refine region_ext (by kernel_rfl) (by kernel_rfl) ?_
    repeat (go_big_quiet_step (fail))
    refine wpQuiet_nil ?_
    rintro _ ⟨r4, rfl⟩
    go_wp2_with fail
    go_ret
    exact ⟨ret_bool HR.out.symm, HX.out.trans (by (show Ext _ _; repeat first | (with_reducible first | (refine xH ?_; assumption) | exact xR _ | refine xX ?_ _ | refine xA ?_ _) | refine xD ?_ | refine xN ?_ _ | exact xR _))⟩
   ·have HR := hid (show rightB es = false by rw [H0.out, HA.out, HPr.out, show rbadB (none) ⟨x0, x1, x2, x3, x4, x5⟩ = true by (try simp at h1 h2 h4); simp [rbadB, h1, h2, h4]]; rfl)
    clear HA H0
    go_wp2_with fail
    refine region_ext (by kernel_rfl) (by kernel_rfl) ?_
    repeat (go_big_quiet_step (fail))
    refine wpQuiet_nil ?_
    rintro _ ⟨r4, rfl⟩
    go_wp2_with fail
    go_ret
    exact ⟨ret_bool HR.out.symm, HX.out.trans (by (show Ext _ _; repeat first | (with_reducible first | (refine xH ?_; assumption) | exact xR _ | refine xX ?_ _ | refine xA ?_ _) | refine xD ?_ | refine xN ?_ _ | exact xR _))⟩
   ·have HR := hid (show rightB es = false by rw [H0.out, HA.out, HPr.out, show rbadB (none) ⟨x0, x1, x2, x3, x4, x5⟩ = true by (try simp at h1 h2 h4 h5 h6); simp [rbadB, h1, h2, h4, h5, h6]]; rfl)
    subst h5
    subst h4
    clear HA H0
    go_wp2_with fail
    refine region_ext (by kernel_rfl) (by kernel_rfl) ?_
    repeat (go_big_quiet_step (fail))
    refine wpQuiet_nil ?_
    rintro _ ⟨r4, rfl⟩
    go_wp2_with fail
    go_ret
    exact ⟨ret_bool HR.out.symm, HX.out.trans (by (show Ext _ _; repeat first | (with_reducible first | (refine xH ?_; assumption) | exact xR _ | refine xX ?_ _ | refine xA ?_ _) | refine xD ?_ | refine xN ?_ _ | exact xR _))⟩
   ·have HR := hid (show rightB es = false by rw [H0.out, HA.out, HPr.out, show rbadB (none) ⟨x0, x1, x2, x3, x4, x5⟩ = true by (try simp at h1 h2 h4 h5 h6); simp [rbadB, h1, h2, h4, h5, h6]]; rfl)
    subst h5
    subst h4
    clear HA H0
    go_wp2_with fail
    refine region_ext (by kernel_rfl) (by kernel_rfl) ?_
    repeat (go_big_quiet_step (fail))
    refine wpQuiet_nil ?_
    rintro _ ⟨r4, rfl⟩
    go_wp2_with fail
    go_ret
    exact ⟨ret_bool HR.out.symm, HX.out.trans (by (show Ext _ _; repeat first | (with_reducible first | (refine xH ?_; assumption) | exact xR _ | refine xX ?_ _ | refine xA ?_ _) | refine xD ?_ | refine xN ?_ _ | exact xR _))⟩
   ·have HR := hid (show rightB es = (rightGo (prevE es (j + 1)) (es.drop (j + 1)) && decide (1 ≤ es.length ∧ es.length ≤ 32)) by rw [H0.out, HA.out, HPr.out, show rbadB (none) ⟨x0, x1, x2, x3, x4, x5⟩ = false by (try simp at h1 h2 h4 h5 h6); simp [rbadB, h1, h2, h4, h5, h6]]; rfl)
    subst h5
    subst h4
    clear HA H0
    go_wp2_with fail
    refine region_ext (by kernel_rfl) (by kernel_rfl) ?_
    repeat (go_big_quiet_step (fail))
    refine wpQuiet_nil ?_
    rintro _ ⟨r4, rfl⟩
    go_wp2_with fail
    go_roundw
    case rel => exact ⟨j + 1, by omega, by go_num, HR, hid (HX.out.trans (by (show Ext _ _; repeat first | (with_reducible first | (refine xH ?_; assumption) | exact xR _ | refine xX ?_ _ | refine xA ?_ _) | refine xD ?_ | refine xN ?_ _ | exact xR _)))⟩
    case measure => simp [intOf]; omega
   ·have HR := hid (show rightB es = (rightGo (prevE es (j + 1)) (es.drop (j + 1)) && decide (1 ≤ es.length ∧ es.length ≤ 32)) by rw [H0.out, HA.out, HPr.out, show rbadB (none) ⟨x0, x1, x2, x3, x4, x5⟩ = false by (try simp at h1 h2 h4 h5 h6); simp [rbadB, h1, h2, h4, h5, h6]]; rfl)
    subst h5
    subst h4
    clear HA H0
    go_wp2_with fail
    refine region_ext (by kernel_rfl) (by kernel_rfl) ?_
    repeat (go_big_quiet_step (fail))
    refine wpQuiet_nil ?_
    rintro _ ⟨r4, rfl⟩
    go_wp2_with fail
    go_roundw
    case rel => exact ⟨j + 1, by omega, by go_num, HR, hid (HX.out.trans (by (show Ext _ _; repeat first | (with_reducible first | (refine xH ?_; assumption) | exact xR _ | refine xX ?_ _ | refine xA ?_ _) | refine xD ?_ | refine xN ?_ _ | exact xR _)))⟩
    case measure => simp [intOf]; omega
  ·obtain ⟨i, rfl⟩ : ∃ i, j = i + 1 := ⟨j - 1, by omega⟩
   have hj0 : (0 : Int) < (i : Int) + 1 := by omega
   have hil : i < es.length := by omega
   have hy := List.getElem?_eq_getElem hil
   generalize es[i] = y at hy
   have HPr := hid (show prevE es (i + 1) = some y by unfold prevE; rw [if_neg (by omega), Nat.add_sub_cancel, hy])
   obtain ⟨q0, b', o', hab, _, hcs⟩ := Sl.at (HV.out.of enE_len HX.out) hy
   cases hab
   obtain ⟨y0, y1, y2, y3, y4, y5⟩ := y
   have q0 := hcs 0 (by omega)
   simp [enE] at q0
   have hi1 : (i : Int) < (es.length : Int) := by omega
   have hi0 : (0 : Int) ≤ (i : Int) := by omega
   have hw1 : IntKind.i64.wrap ((i : Int) + 1 - 1) = (i : Int) := by rw [show (i : Int) + 1 - 1 = i by omega]; exact IntWalk.i64_in _ (by omega)
   clear hcs hy h0
   have hcs : (decide (x0 < 0) = true) ∨ (decide (x0 < 0) = false ∧ decide (4096 ≤ x0) = true) ∨ (decide (x0 < 0) = false ∧ decide (4096 ≤ x0) = false ∧ decide (x0 ≤ y0) = true) ∨ (decide (x0 < 0) = false ∧ decide (4096 ≤ x0) = false ∧ decide (x0 ≤ y0) = false ∧ (x3 != 0) = true) ∨ (decide (x0 < 0) = false ∧ decide (4096 ≤ x0) = false ∧ decide (x0 ≤ y0) = false ∧ x3 = 0 ∧ x5 = true ∧ (x2 == 4294967295) = true) ∨ (decide (x0 < 0) = false ∧ decide (4096 ≤ x0) = false ∧ decide (x0 ≤ y0) = false ∧ x3 = 0 ∧ x5 = false ∧ (x4 != x1) = true) ∨ (decide (x0 < 0) = false ∧ decide (4096 ≤ x0) = false ∧ decide (x0 ≤ y0) = false ∧ x3 = 0 ∧ x5 = true ∧ (x2 == 4294967295) = false) ∨ (decide (x0 < 0) = false ∧ decide (4096 ≤ x0) = false ∧ decide (x0 ≤ y0) = false ∧ x3 = 0 ∧ x5 = false ∧ (x4 != x1) = false) := by
    cases x5 <;> by_cases z1 : x0 < 0 <;> by_cases z2 : 4096 ≤ x0 <;> by_cases z3 : x0 ≤ y0 <;> by_cases z4 : x3 = 0 <;> by_cases z5 : x2 = 4294967295 <;> by_cases z6 : x4 = x1 <;> simp [z1, z2, z3, z4, z5, z6]
   rcases hcs with h1 | ⟨h1, h2⟩ | ⟨h1, h2, h3⟩ | ⟨h1, h2, h3, h4⟩ | ⟨h1, h2, h3, h4, h5, h6⟩ | ⟨h1, h2, h3, h4, h5, h6⟩ | ⟨h1, h2, h3, h4, h5, h6⟩ | ⟨h1, h2, h3, h4, h5, h6⟩
   ·have HR := hid (show rightB es = false by rw [H0.out, HA.out, HPr.out, show rbadB (some ⟨y0, y1, y2, y3, y4, y5⟩) ⟨x0, x1, x2, x3, x4, x5⟩ = true by (try simp at h1); simp [rbadB, h1]]; rfl)
    clear HA H0
    go_wp2_with fail
    refine region_ext (by kernel_rfl) (by kernel_rfl) ?_
    repeat (go_big_quiet_step (fail))
    refine wpQuiet_nil ?_
    rintro _ ⟨r4, rfl⟩
    go_wp2_with fail
    go_ret
    exact ⟨ret_bool HR.out.symm, HX.out.trans (by (show Ext _ _; repeat first | (with_reducible first | (refine xH ?_; assumption) | exact xR _ | refine xX ?_ _ | refine xA ?_ _) | refine xD ?_ | refine xN ?_ _ | exact xR _))⟩
   ·have HR := hid (show rightB es = false by rw [H0.out, HA.out, HPr.out, show rbadB (some ⟨y0, y1, y2, y3, y4, y5⟩) ⟨x0, x1, x2, x3, x4, x5⟩ = true by (try simp at h1 h2); simp [rbadB, h1, h2]]; rfl)
    clear HA H0
    go_wp2_with fail
    refine region_ext (by kernel_rfl) (by kernel_rfl) ?_
    repeat (go_big_quiet_step (fail))
    refine wpQuiet_nil ?_
    rintro _ ⟨r4, rfl⟩
    go_wp2_with fail
    go_ret
    exact ⟨ret_bool HR.out.symm, HX.out.trans (by (show Ext _ _; repeat first | (with_reducible first | (refine xH ?_; assumption) | exact xR _ | refine xX ?_ _ | refine xA ?_ _) | refine xD ?_ | refine xN ?_ _ | exact xR _))⟩
   ·have HR := hid (show rightB es = false by rw [H0.out, HA.out, HPr.out, show rbadB (some ⟨y0, y1, y2, y3, y4, y5⟩) ⟨x0, x1, x2, x3, x4, x5⟩ = true by (try simp at h1 h2 h3); simp [rbadB, h1, h2, h3]]; rfl)
    clear HA H0
    go_wp2_with fail
    refine region_ext (by kernel_rfl) (by kernel_rfl) ?_
    repeat (go_big_quiet_step (fail))
    refine wpQuiet_nil ?_
    rintro _ ⟨r4, rfl⟩
    go_wp2_with fail
    go_ret
    exact ⟨ret_bool HR.out.symm, HX.out.trans (by (show Ext _ _; repeat first | (with_reducible first | (refine xH ?_; assumption) | exact xR _ | refine xX ?_ _ | refine xA ?_ _) | refine xD ?_ | refine xN ?_ _ | exact xR _))⟩
   ·have HR := hid (show rightB es = false by rw [H0.out, HA.out, HPr.out, show rbadB (some ⟨y0, y1, y2, y3, y4, y5⟩) ⟨x0, x1, x2, x3, x4, x5⟩ = true by (try simp at h1 h2 h3 h4); simp [rbadB, h1, h2, h3, h4]]; rfl)
    clear HA H0
    go_wp2_with fail
    refine region_ext (by kernel_rfl) (by kernel_rfl) ?_
    repeat (go_big_quiet_step (fail))
    refine wpQuiet_nil ?_
    rintro _ ⟨r4, rfl⟩
    go_wp2_with fail
    go_ret
    exact ⟨ret_bool HR.out.symm, HX.out.trans (by (show Ext _ _; repeat first | (with_reducible first | (refine xH ?_; assumption) | exact xR _ | refine xX ?_ _ | refine xA ?_ _) | refine xD ?_ | refine xN ?_ _ | exact xR _))⟩
   ·have HR := hid (show rightB es = false by rw [H0.out, HA.out, HPr.out, show rbadB (some ⟨y0, y1, y2, y3, y4, y5⟩) ⟨x0, x1, x2, x3, x4, x5⟩ = true by (try simp at h1 h2 h3 h4 h5 h6); simp [rbadB, h1, h2, h3, h4, h5, h6]]; rfl)
    subst h5
    subst h4
    clear HA H0
    go_wp2_with fail
    refine region_ext (by kernel_rfl) (by kernel_rfl) ?_
    repeat (go_big_quiet_step (fail))
    refine wpQuiet_nil ?_
    rintro _ ⟨r4, rfl⟩
    go_wp2_with fail
    go_ret
    exact ⟨ret_bool HR.out.symm, HX.out.trans (by (show Ext _ _; repeat first | (with_reducible first | (refine xH ?_; assumption) | exact xR _ | refine xX ?_ _ | refine xA ?_ _) | refine xD ?_ | refine xN ?_ _ | exact xR _))⟩
   ·have HR := hid (show rightB es = false by rw [H0.out, HA.out, HPr.out, show rbadB (some ⟨y0, y1, y2, y3, y4, y5⟩) ⟨x0, x1, x2, x3, x4, x5⟩ = true by (try simp at h1 h2 h3 h4 h5 h6); simp [rbadB, h1, h2, h3, h4, h5, h6]]; rfl)
    subst h5
    subst h4
    clear HA H0
    go_wp2_with fail
    refine region_ext (by kernel_rfl) (by kernel_rfl) ?_
    repeat (go_big_quiet_step (fail))
    refine wpQuiet_nil ?_
    rintro _ ⟨r4, rfl⟩
    go_wp2_with fail
    go_ret
    exact ⟨ret_bool HR.out.symm, HX.out.trans (by (show Ext _ _; repeat first | (with_reducible first | (refine xH ?_; assumption) | exact xR _ | refine xX ?_ _ | refine xA ?_ _) | refine xD ?_ | refine xN ?_ _ | exact xR _))⟩
   ·have HR := hid (show rightB es = (rightGo (prevE es (i + 1 + 1)) (es.drop (i + 1 + 1)) && decide (1 ≤ es.length ∧ es.length ≤ 32)) by rw [H0.out, HA.out, HPr.out, show rbadB (some ⟨y0, y1, y2, y3, y4, y5⟩) ⟨x0, x1, x2, x3, x4, x5⟩ = false by (try simp at h1 h2 h3 h4 h5 h6); simp [rbadB, h1, h2, h3, h4, h5, h6]]; rfl)
    subst h5
    subst h4
    clear HA H0
    go_wp2_with fail
    refine region_ext (by kernel_rfl) (by kernel_rfl) ?_
    repeat (go_big_quiet_step (fail))
    refine wpQuiet_nil ?_
    rintro _ ⟨r4, rfl⟩
    go_wp2_with fail
    go_roundw
    case rel => exact ⟨i + 1 + 1, by omega, by go_num, HR, hid (HX.out.trans (by (show Ext _ _; repeat first | (with_reducible first | (refine xH ?_; assumption) | exact xR _ | refine xX ?_ _ | refine xA ?_ _) | refine xD ?_ | refine xN ?_ _ | exact xR _)))⟩
    case measure => simp [intOf]; omega
   ·have HR := hid (show rightB es = (rightGo (prevE es (i + 1 + 1)) (es.drop (i + 1 + 1)) && decide (1 ≤ es.length ∧ es.length ≤ 32)) by rw [H0.out, HA.out, HPr.out, show rbadB (some ⟨y0, y1, y2, y3, y4, y5⟩) ⟨x0, x1, x2, x3, x4, x5⟩ = false by (try simp at h1 h2 h3 h4 h5 h6); simp [rbadB, h1, h2, h3, h4, h5, h6]]; rfl)
    subst h5
    subst h4
    clear HA H0
    go_wp2_with fail
    refine region_ext (by kernel_rfl) (by kernel_rfl) ?_
    repeat (go_big_quiet_step (fail))
    refine wpQuiet_nil ?_
    rintro _ ⟨r4, rfl⟩
    go_wp2_with fail
    go_roundw
    case rel => exact ⟨i + 1 + 1, by omega, by go_num, HR, hid (HX.out.trans (by (show Ext _ _; repeat first | (with_reducible first | (refine xH ?_; assumption) | exact xR _ | refine xX ?_ _ | refine xA ?_ _) | refine xD ?_ | refine xN ?_ _ | exact xR _)))⟩
    case measure => simp [intOf]; omega
end Go.Proofs.YtdpbcfjfnclpiaaDoor
