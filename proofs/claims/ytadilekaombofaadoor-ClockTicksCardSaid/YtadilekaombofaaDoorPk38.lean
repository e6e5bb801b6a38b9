/- The clock's laws, plain: what holds of the tasks at each state, and what each pick does. -/
import Derived.Test.YtadilekaombofaaDoorPk37
namespace Go.Proofs.YtadilekaombofaaDoor
set_option linter.unusedSimpArgs false
set_option linter.unusedVariables false
open Go.RowKit Go.Maps
def TI (time cv : Int) (tick : Bool) (k : Tk ckK.C) : Prop :=
 ∃ (c : Ck) (a : A8) (d : Bool) (g : List Gt), k = ⟨c, a, d, g⟩ ∧ c.at_ = 0 ∧ c.tick = tick ∧
 ((c.st = 1 ∧ d = false ∧ a = ⟨5, 0, (0, 0, 0), (0, 0, 0)⟩ ∧ g = []) ∨
  (c.st = 2 ∧ tick = true ∧ d = false ∧ ∃ o : Int, a = ⟨6, 0, (o, 0, 0), (wrap64 (o + 1), 0, 0)⟩ ∧ time ≤ o ∧ o ≤ cv ∧ (g.length : Int) ≤ 1 + (o - time)) ∨
  (c.st = 3 ∧ d = true ∧ ((tick = true ∧ time + 1 ≤ c.tm ∧ c.tm ≤ cv ∧ (g.length : Int) ≤ 1 + (c.tm - time)) ∨ (tick = false ∧ g.length ≤ 1))))
theorem TI.up {time cv cv' : Int} {tick : Bool} {k : Tk ckK.C} (h : TI time cv tick k) (hc : cv ≤ cv') : TI time cv' tick k := by
 obtain ⟨c, a, d, g, rfl, h1, h2, h⟩ := h
 refine ⟨c, a, d, g, rfl, h1, h2, ?_⟩
 rcases h with h | ⟨e1, e2, e3, o, e4, e5, e6, e7⟩ | ⟨e1, e2, ⟨e3, e4, e5, e6⟩ | e3⟩
 ·exact .inl h
 ·exact .inr (.inl ⟨e1, e2, e3, o, e4, e5, by omega, e7⟩)
 ·exact .inr (.inr ⟨e1, e2, .inl ⟨e3, e4, by omega, e6⟩⟩)
 ·exact .inr (.inr ⟨e1, e2, .inr e3⟩)
theorem TI.start (time : Int) (tick : Bool) : TI time time tick (tkStart ckK (ck0 tick)) :=
 ⟨⟨0, tick, 1, 0⟩, ⟨5, 0, (0, 0, 0), (0, 0, 0)⟩, false, [], rfl, rfl, rfl, .inl ⟨rfl, rfl, rfl, rfl⟩⟩
theorem TI.step {time cv : Int} {tick : Bool} {k : Tk ckK.C} (h : TI time cv tick k) (hd : k.d = false) (h1 : -2251799813685248 ≤ time) (h2 : cv ≤ 2251799813685248) (h3 : time ≤ cv) :
 (k.a.at_ = 0 ∧ (k.a.op = 5 ∨ k.a.op = 6) ∧ (k.g.length : Int) ≤ 1 + (cv - time)) ∧ ∃ cv', cl26 k.a (cv, 0, 0) = (cv', 0, 0) ∧ TI time cv' tick (tkNext ckK k (got26 k.a (cv, 0, 0))) ∧
  ((cv' = cv ∧ ((tkNext ckK k (got26 k.a (cv, 0, 0))).d = false ∨ (tick = false ∧ (tkNext ckK k (got26 k.a (cv, 0, 0))).d = true ∧ (show Ck from (tkNext ckK k (got26 k.a (cv, 0, 0))).c).tm = cv))) ∨
   (cv' = cv + 1 ∧ tick = true ∧ (tkNext ckK k (got26 k.a (cv, 0, 0))).d = true ∧ (show Ck from (tkNext ckK k (got26 k.a (cv, 0, 0))).c).tm = cv + 1)) := by
 obtain ⟨⟨at_, tk, st, tm⟩, a, d, g, rfl, e1, e2, h⟩ := h
 dsimp only at e1 e2 hd h
 subst e1 e2 hd
 have hw : wrap64 (cv + 1) = cv + 1 := IntWalk.wrap64_in _ (by omega)
 rcases h with ⟨rfl, _, rfl, rfl⟩ | ⟨rfl, rfl, _, o, rfl, f1, f2, f3⟩ | ⟨_, h0, _⟩
 ·refine ⟨⟨rfl, .inl rfl, by simp; omega⟩, cv, by simp [cl26], ?_⟩
  cases tk
  ·refine ⟨⟨⟨0, false, 3, cv⟩, a8Z, true, [((cv, 0, 0), true)], by simp [tkNext, got26, ckNext], rfl, rfl, .inr (.inr ⟨rfl, rfl, .inr ⟨rfl, by simp⟩⟩)⟩, .inl ⟨rfl, .inr ⟨rfl, by simp [tkNext, got26, ckNext], by simp [tkNext, got26, ckNext]⟩⟩⟩
  ·refine ⟨⟨⟨0, true, 2, tm⟩, ⟨6, 0, (cv, 0, 0), (wrap64 (cv + 1), 0, 0)⟩, false, [((cv, 0, 0), true)], by simp [tkNext, got26, ckNext], rfl, rfl, .inr (.inl ⟨rfl, rfl, rfl, cv, rfl, h3, Int.le_refl _, by simp; omega⟩)⟩, .inl ⟨rfl, .inl (by simp [tkNext, got26, ckNext])⟩⟩
 ·refine ⟨⟨rfl, .inr rfl, by dsimp only; omega⟩, ?_⟩
  by_cases ho : cv = o
  ·subst ho
   refine ⟨cv + 1, by simp [cl26, hw], ⟨⟨0, true, 3, cv + 1⟩, a8Z, true, g ++ [((cv, 0, 0), true)], by simp [tkNext, got26, ckNext, hw], rfl, rfl, .inr (.inr ⟨rfl, rfl, .inl ⟨rfl, by dsimp only; omega, by dsimp only; omega, by simp; omega⟩⟩)⟩, .inr ⟨rfl, rfl, by simp [tkNext, got26, ckNext], by simp [tkNext, got26, ckNext, hw]⟩⟩
  ·refine ⟨cv, by simp [cl26, ho], ⟨⟨0, true, 2, tm⟩, ⟨6, 0, (cv, 0, 0), (wrap64 (cv + 1), 0, 0)⟩, false, g ++ [((cv, 0, 0), false)], by simp [tkNext, got26, ckNext, ho], rfl, rfl, .inr (.inl ⟨rfl, rfl, rfl, cv, rfl, h3, Int.le_refl _, by simp; omega⟩)⟩, .inl ⟨rfl, .inl (by simp [tkNext, got26, ckNext, ho])⟩⟩
 ·cases h0
theorem TI.range {time cv : Int} {tick : Bool} {k : Tk ckK.C} (h : TI time cv tick k) : (k.d = true ∧ (show Ck from k.c).st = 3) ∨ (k.d = false ∧ ¬ (show Ck from k.c).st = 3) := by
 obtain ⟨c, a, d, g, rfl, e1, e2, h⟩ := h
 rcases h with ⟨h1, h2, _⟩ | ⟨h1, _, h2, _⟩ | ⟨h1, h2, _⟩
 ·exact .inr ⟨h2, by show ¬ c.st = 3; omega⟩
 ·exact .inr ⟨h2, by show ¬ c.st = 3; omega⟩
 ·exact .inl ⟨h2, h1⟩
structure Inv (time cv : Int) (ticks : List Bool) (ts : List (Tk ckK.C)) (n : Nat) : Prop where
 len : ts.length = ticks.length
 n3 : ticks.length = 3
 all : ∀ (i : Nat) (k : Tk ckK.C) (t : Bool), ts[i]? = some k → ticks[i]? = some t → TI time cv t k
 lo : -1125899906842624 ≤ time ∧ time ≤ 1125899906842624
 cv : time ≤ cv ∧ cv ≤ time + n
theorem Inv.start (time : Int) (ticks : List Bool) (h3 : ticks.length = 3) (h : -1125899906842624 ≤ time ∧ time ≤ 1125899906842624) : Inv time time ticks (ticks.map (fun t => tkStart ckK (ck0 t))) 0 :=
 ⟨List.length_map _, h3, fun i k t e1 e2 => by
  rw [List.getElem?_map, e2] at e1
  cases e1
  exact TI.start time t, h, by omega⟩
theorem Inv.up {time cv : Int} {ticks : List Bool} {ts : List (Tk ckK.C)} {n : Nat} (h : Inv time cv ticks ts n) : Inv time cv ticks ts (n + 1) := ⟨h.len, h.n3, h.all, h.lo, by have := h.cv; omega⟩
theorem pick26 {time cv : Int} {ticks : List Bool} {ts : List (Tk ckK.C)} {bs : List Bool} {m : Mc} {n : Nat} (hg : G26 m (cv, 0, 0) n) (hn : n ≤ 1000) (hI : Inv time cv ticks ts n) (hbl : bs.length = ts.length) (kd t ch : Int) (h2 : ¬ kd = 2) :
 StepNo ckK none 0 kd t ch (m, ts) bs ∨
 (kd = 1 ∧ ∃ i : Nat, t = i + 1 ∧ i < ts.length ∧ StepOk ckK none 0 1 t ch (m, ts) (m, ts) bs (bs.set i true)) ∨
 (kd = 0 ∧ ∃ (i : Nat) (k k' : Tk ckK.C) (tick : Bool) (m' : Mc) (cv' : Int), t = i + 1 ∧ ts[i]? = some k ∧ ticks[i]? = some tick ∧ k.d = false ∧ StepOk ckK none 0 0 t ch (m, ts) (m', ts.set i k') bs bs ∧ G26 m' (cv', 0, 0) (n + 1) ∧ Inv time cv' ticks (ts.set i k') (n + 1) ∧ TI time cv' tick k' ∧
  ((cv' = cv ∧ (k'.d = false ∨ (tick = false ∧ k'.d = true ∧ (show Ck from k'.c).tm = cv))) ∨ (cv' = cv + 1 ∧ tick = true ∧ k'.d = true ∧ (show Ck from k'.c).tm = cv + 1))) := by
 have hv : 0 < m.me.vs.length := by rw [hg.vn]; omega
 have hl := hI.len
 have h3 := hI.n3
 by_cases ht : t < 1 ∨ (ts.length : Int) < t
 ·exact .inl (step_no_out hv kd t ch h2 ht)
 ·obtain ⟨i, hi⟩ : ∃ i : Nat, t = ((i + 1 : Nat) : Int) := ⟨(t - 1).toNat, by omega⟩
  subst hi
  have hil : i < ts.length := by omega
  obtain ⟨k, hk⟩ : ∃ k, ts[i]? = some k := ⟨ts[i], List.getElem?_eq_getElem hil⟩
  obtain ⟨tick, htk⟩ : ∃ x, ticks[i]? = some x := ⟨ticks[i]'(by omega), List.getElem?_eq_getElem _⟩
  by_cases hno : (bs[i]?.getD false = true ∨ k.d = true) ∨ (¬ kd = 0 ∧ ¬ kd = 1)
  ·exact .inl (step_no_at hv (by omega) (by omega) kd ch h2 (i + 1) i rfl k hk hno)
  ·have hs : bs[i]?.getD false = false := by
    cases hb : bs[i]?.getD false
    ·rfl
    ·exact absurd (.inl (.inl hb)) hno
   have hd : k.d = false := by
    cases hb : k.d
    ·rfl
    ·exact absurd (.inl (.inr hb)) hno
   by_cases h1 : kd = 1
   ·subst h1
    exact .inr (.inl ⟨rfl, i, rfl, hil, step_stop_ok hv (by omega) hbl ch (i + 1) i rfl k hk hs hd⟩)
   ·have h0 : kd = 0 := by
     by_cases h0 : kd = 0
     ·exact h0
     ·exact absurd (.inr ⟨h0, h1⟩) hno
    subst h0
    have hlo := hI.lo
    have hcv := hI.cv
    obtain ⟨⟨a0, aop, ag⟩, cv', hc, hTI, hres⟩ := (hI.all i k tick hk htk).step hd (by omega) (by omega) (by omega)
    obtain ⟨m', hg', hst⟩ := stepck hg (by omega) (by omega) (bs := bs) (by omega) i k hk hs hd (by omega) a0 aop ch
    rw [hc] at hg'
    refine .inr (.inr ⟨rfl, i, k, _, tick, m', cv', rfl, hk, htk, hd, hst, hg', ⟨by rw [List.length_set]; exact hl, h3, fun j x t' e1 e2 => ?_, hlo, by rcases hres with ⟨h, _⟩ | ⟨h, _⟩ <;> omega⟩, hTI, hres⟩)
    by_cases hj : i = j
    ·subst hj
     rw [List.getElem?_set_self hil] at e1
     rw [htk] at e2
     cases e1; cases e2
     exact hTI
    ·rw [List.getElem?_set_ne hj] at e1
     exact (hI.all j x t' e1 e2).up (by rcases hres with ⟨h, _⟩ | ⟨h, _⟩ <;> omega)
end Go.Proofs.YtadilekaombofaaDoor
