/- The clock's laws, plain: the runs of ClockLater. -/
import Derived.Test.YtaaammenbfinmaaDoorClRWalk
namespace Go.Proofs.YtaaammenbfinmaaDoor
set_option linter.unusedSimpArgs false
set_option linter.unusedVariables false
open Go.RowKit Go.Maps

/-- Three tasks: x and y lie in places 0 and 1, or turned about. -/
def LL (sw : Bool) (x y z : Tk ckK.C) : List (Tk ckK.C) := if sw = true then [y, x, z] else [x, y, z]
def iX (sw : Bool) : Nat := if sw = true then 1 else 0
def iY (sw : Bool) : Nat := if sw = true then 0 else 1
theorem LL_x (sw : Bool) (x y z : Tk ckK.C) : (LL sw x y z)[iX sw]? = some x := by cases sw <;> rfl
theorem LL_y (sw : Bool) (x y z : Tk ckK.C) : (LL sw x y z)[iY sw]? = some y := by cases sw <;> rfl
theorem LL_z (sw : Bool) (x y z : Tk ckK.C) : (LL sw x y z)[2]? = some z := by cases sw <;> rfl
theorem LL_len (sw : Bool) (x y z : Tk ckK.C) : (LL sw x y z).length = 3 := by cases sw <;> rfl
theorem LL_setx (sw : Bool) (x y z x' : Tk ckK.C) : (LL sw x y z).set (iX sw) x' = LL sw x' y z := by cases sw <;> rfl
theorem LL_sety (sw : Bool) (x y z y' : Tk ckK.C) : (LL sw x y z).set (iY sw) y' = LL sw x y' z := by cases sw <;> rfl
theorem LL_setz (sw : Bool) (x y z z' : Tk ckK.C) : (LL sw x y z).set 2 z' = LL sw x y z' := by cases sw <;> rfl
abbrev bs3 : List Bool := [false, false, false]
theorem bs3_at (i : Nat) : bs3[i]?.getD false = false := by
  match i with
  | 0 => rfl
  | 1 => rfl
  | 2 => rfl
  | i + 3 => rfl

abbrev kA0 : Tk ckK.C := tkStart ckK (ck0 true)
abbrev kN0 : Tk ckK.C := tkStart ckK (ck0 false)
def kN1 (v : Int) : Tk ckK.C := ⟨(⟨0, false, 3, v⟩ : Ck), a8Z, true, [((v, 0, 0), true)]⟩
theorem kN_1 (v : Int) : tkNext ckK kN0 (got26 kN0.a (v, 0, 0)) = kN1 v := rfl

theorem runA (sw : Bool) (T : Int) (h : -1125899906842624 ≤ T ∧ T ≤ 1125899906842624) : ∃ m1 m2, G26 m2 (T + 1, 0, 0) 2 ∧ StepOk ckK none 0 0 ((iX sw + 1 : Nat) : Int) 0 (mc26 T, LL sw kA0 kA0 kN0) (m1, LL sw (tk26a T) kA0 kN0) bs3 bs3 ∧ StepOk ckK none 0 0 ((iX sw + 1 : Nat) : Int) 0 (m1, LL sw (tk26a T) kA0 kN0) (m2, LL sw (tk26b T) kA0 kN0) bs3 bs3 := by
  obtain ⟨m1, h1, h2⟩ := stepck (mc26_good T) (by omega) (ts := LL sw kA0 kA0 kN0) (Nat.le_of_eq (LL_len ..)) (bs := bs3) (by simp) (iX sw) _ (LL_x ..) (bs3_at _) rfl (by simp [tk26_0]) rfl (.inl rfl) 0
  rw [tk26_1, LL_setx] at h2
  have hc : cl26 kA0.a (T, 0, 0) = (T, 0, 0) := by simp [cl26, tk26_0]
  rw [hc] at h1
  obtain ⟨m2, h3, h4⟩ := stepck h1 (by omega) (ts := LL sw (tk26a T) kA0 kN0) (Nat.le_of_eq (LL_len ..)) (bs := bs3) (by simp) (iX sw) _ (LL_x ..) (bs3_at _) rfl (by simp [tk26a]) rfl (.inr rfl) 0
  rw [tk26_2, LL_setx] at h4
  rw [cl26_2, IntWalk.wrap64_in _ (by omega)] at h3
  exact ⟨m1, m2, h3, h2, h4⟩
theorem runN (sw : Bool) {V : Int} {m : Mc} {n : Nat} (hg : G26 m (V, 0, 0) n) (hn : n ≤ 1000) (x : Tk ckK.C) : ∃ m', G26 m' (V, 0, 0) (n + 1) ∧ StepOk ckK none 0 0 ((2 + 1 : Nat) : Int) 0 (m, LL sw x kA0 kN0) (m', LL sw x kA0 (kN1 V)) bs3 bs3 := by
  obtain ⟨m1, h1, h2⟩ := stepck hg (by omega) (ts := LL sw x kA0 kN0) (Nat.le_of_eq (LL_len ..)) (bs := bs3) (by simp) 2 _ (LL_z ..) (bs3_at _) rfl (by simp [tkStart, ckNext, ck0]) rfl (.inl rfl) 0
  rw [kN_1, LL_setz] at h2
  have hc : cl26 kN0.a (V, 0, 0) = (V, 0, 0) := by simp [cl26, tkStart, ckNext, ck0]
  rw [hc] at h1
  exact ⟨m1, h1, h2⟩
/-- The other Tick, behind p steps. -/
def kB (V : Int) (p : Nat) : Tk ckK.C := if p = 0 then kA0 else if p = 1 then tk26a V else tk26b V
def clkB (V : Int) (p : Nat) : Int := if p = 2 then V + 1 else V
theorem kB_d (V : Int) (p : Nat) : (kB V p).d = decide (¬ p = 0 ∧ ¬ p = 1) := by
  unfold kB
  by_cases h0 : p = 0
  · rw [if_pos h0]; simp [h0]; rfl
  · by_cases h1 : p = 1
    · rw [if_neg h0, if_pos h1]; simp [h1]; rfl
    · rw [if_neg h0, if_neg h1]; simp [h0, h1]; rfl
theorem goB (sw : Bool) {V : Int} (hV : -1125899906842626 ≤ V ∧ V ≤ 1125899906842626) {m : Mc} {n p : Nat} (hp : p < 2) (hg : G26 m (clkB V p, 0, 0) n) (hn : n ≤ 1000) (x z : Tk ckK.C) (ch : Int) : ∃ m', G26 m' (clkB V (p + 1), 0, 0) (n + 1) ∧ StepOk ckK none 0 0 ((iY sw + 1 : Nat) : Int) ch (m, LL sw x (kB V p) z) (m', LL sw x (kB V (p + 1)) z) bs3 bs3 := by
  have hp2 : p = 0 ∨ p = 1 := by omega
  rcases hp2 with rfl | rfl
  · obtain ⟨m1, h1, h2⟩ := stepck hg (by omega) (ts := LL sw x (kB V 0) z) (Nat.le_of_eq (LL_len ..)) (bs := bs3) (by simp) (iY sw) _ (LL_y ..) (bs3_at _) rfl (by simp [kB, tk26_0]) rfl (.inl rfl) ch
    have e1 : clkB V 0 = V := rfl
    have e2 : kB V 0 = kA0 := rfl
    rw [e1, e2] at h1 h2
    rw [tk26_1, LL_sety] at h2
    have hc : cl26 kA0.a (V, 0, 0) = (V, 0, 0) := by simp [cl26, tk26_0]
    rw [hc] at h1
    exact ⟨m1, h1, h2⟩
  · obtain ⟨m1, h1, h2⟩ := stepck hg (by omega) (ts := LL sw x (kB V 1) z) (Nat.le_of_eq (LL_len ..)) (bs := bs3) (by simp) (iY sw) _ (LL_y ..) (bs3_at _) rfl (by simp [kB, tk26a]) rfl (.inr rfl) ch
    have e1 : clkB V 1 = V := rfl
    have e2 : kB V 1 = tk26a V := rfl
    rw [e1, e2] at h1 h2
    rw [tk26_2, LL_sety] at h2
    rw [cl26_2, IntWalk.wrap64_in _ (by omega)] at h1
    exact ⟨m1, h1, h2⟩
theorem stopB (sw : Bool) {V c : Int} {m : Mc} {n : Nat} (hg : G26 m (c, 0, 0) n) (x z : Tk ckK.C) (hx : x.d = true) (hz : z.d = true) (t ch : Int) (p : Nat) (h : t = ((iY sw + 1 : Nat) : Int) → (kB V p).d = true) : StepNo ckK none 0 0 t ch (m, LL sw x (kB V p) z) bs3 := by
  have hv : 0 < m.me.vs.length := by rw [hg.vn]; omega
  by_cases ht : t < 1 ∨ ((LL sw x (kB V p) z).length : Int) < t
  · exact step_no_out hv 0 t ch (by omega) ht
  · rw [LL_len] at ht
    have hd : ∃ (i : Nat) (k : Tk ckK.C), t = ((i + 1 : Nat) : Int) ∧ (LL sw x (kB V p) z)[i]? = some k ∧ k.d = true := by
      have h3 : t = 1 ∨ t = 2 ∨ t = 3 := by omega
      cases sw
      · rcases h3 with rfl | rfl | rfl
        · exact ⟨0, x, rfl, rfl, hx⟩
        · exact ⟨1, _, rfl, rfl, h rfl⟩
        · exact ⟨2, z, rfl, rfl, hz⟩
      · rcases h3 with rfl | rfl | rfl
        · exact ⟨0, _, rfl, rfl, h rfl⟩
        · exact ⟨1, x, rfl, rfl, hx⟩
        · exact ⟨2, z, rfl, rfl, hz⟩
    obtain ⟨i, k, rfl, hk, hkd⟩ := hd
    exact step_no_at hv (by rw [LL_len]; omega) (by simp) 0 ch (by omega) (i + 1) i rfl k hk (.inl (.inr hkd))
/-- A pick while the other Tick may go on. -/
theorem stepB (sw : Bool) {V : Int} (hV : -1125899906842626 ≤ V ∧ V ≤ 1125899906842626) {m : Mc} {n p : Nat} (hp : p ≤ 2) (hg : G26 m (clkB V p, 0, 0) n) (hn : n ≤ 1000) (x z : Tk ckK.C) (hx : x.d = true) (hz : z.d = true) (t ch : Int) :
    ∃ m' p', p' ≤ 2 ∧ G26 m' (clkB V p', 0, 0) (n + 1) ∧
      ∀ (W : World) (P : Nat → Prop) (v : Value), (∀ b, P b → b < W.heap.size) → WV ckK W P none 0 v m (LL sw x (kB V p) z) bs3 → Calls Tryd.prog 10 #[v, .agg #[.int .i64 0, .int .i64 t, .int .i64 ch]] W fun e w' => ∃ v' mv, e = .returned (.tuple #[v', .bool mv]) ∧ Ext W w' ∧ WV ckK w' (fun b => P b ∨ W.heap.size ≤ b) none 0 v' m' (LL sw x (kB V p') z) bs3 := by
  by_cases h : t = ((iY sw + 1 : Nat) : Int) ∧ p < 2
  · obtain ⟨rfl, h2⟩ := h
    obtain ⟨m', h3, h4⟩ := goB sw hV h2 hg hn x z ch
    refine ⟨m', p + 1, by omega, h3, fun W P v hP hv => (h4 W P v hP hv).mono ?_⟩
    rintro e w' ⟨v', rfl, he, hv'⟩
    exact ⟨v', true, rfl, he, hv'⟩
  · refine ⟨m, p, hp, hg.up, fun W P v hP hv => (stopB sw (V := V) hg x z hx hz t ch p (fun ht => ?_) W P v hv).mono ?_⟩
    · rw [kB_d]; simp; omega
    · rintro e w' ⟨rfl, he⟩
      exact ⟨v, false, rfl, he, (hv.of he).imp (fun b hb => .inl hb)⟩
/-- The other Tick runs to its end. -/
theorem runB (sw : Bool) {V : Int} (hV : -1125899906842626 ≤ V ∧ V ≤ 1125899906842626) {m : Mc} {n p : Nat} (hp : p ≤ 2) (hg : G26 m (clkB V p, 0, 0) n) (hn : n ≤ 900) (x z : Tk ckK.C) (hx : x.d = true) (hz : z.d = true) :
    ∃ (M : Nat → Mc × List (Tk ckK.C)) (k : Nat), M 0 = (m, LL sw x (kB V p) z) ∧ (M k).2 = LL sw x (tk26b V) z ∧ k ≤ 4 ∧ (∀ j, j < k → StepOk ckK none 0 0 ((iY sw + 1 : Nat) : Int) 0 (M j) (M (j + 1)) bs3 bs3) ∧ StepNo ckK none 0 0 ((iY sw + 1 : Nat) : Int) 0 (M k) bs3 := by
  have hp3 : p = 0 ∨ p = 1 ∨ p = 2 := by omega
  rcases hp3 with rfl | rfl | rfl
  · obtain ⟨m1, h1, h2⟩ := goB sw hV (p := 0) (by omega) hg (by omega) x z 0
    obtain ⟨m2, h3, h4⟩ := goB sw hV (p := 1) (by omega) h1 (by omega) x z 0
    refine ⟨fun j => if j = 0 then (m, LL sw x (kB V 0) z) else if j = 1 then (m1, LL sw x (kB V 1) z) else (m2, LL sw x (kB V 2) z), 2, rfl, rfl, by omega, fun j hj => ?_, stopB sw (V := V) h3 x z hx hz _ 0 2 (fun _ => rfl)⟩
    have hj2 : j = 0 ∨ j = 1 := by omega
    rcases hj2 with rfl | rfl
    · exact h2
    · exact h4
  · obtain ⟨m2, h3, h4⟩ := goB sw hV (p := 1) (by omega) hg (by omega) x z 0
    refine ⟨fun j => if j = 0 then (m, LL sw x (kB V 1) z) else (m2, LL sw x (kB V 2) z), 1, rfl, rfl, by omega, fun j hj => ?_, stopB sw (V := V) h3 x z hx hz _ 0 2 (fun _ => rfl)⟩
    obtain rfl : j = 0 := by omega
    exact h4
  · exact ⟨fun _ => (m, LL sw x (kB V 2) z), 0, rfl, rfl, by omega, fun j hj => by omega, stopB sw (V := V) hg x z hx hz _ 0 2 (fun _ => rfl)⟩

end Go.Proofs.YtaaammenbfinmaaDoor
