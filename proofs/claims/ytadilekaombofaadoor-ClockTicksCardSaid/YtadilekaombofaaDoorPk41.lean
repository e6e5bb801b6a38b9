/- What the clock's walks share: numbers at a loop's round, picks, worlds in a box of the law's own, tasks that are done. -/
import Derived.Test.YtadilekaombofaaDoorPk38
namespace Go.Proofs.YtadilekaombofaaDoor
set_option linter.unusedSimpArgs false
set_option linter.unusedVariables false
open Go.RowKit Go.Maps
theorem slot_next {j jq : Nat} (h : jq = j + 1) : Value.int .i64 ((j : Int) + 1) = Value.int .i64 (jq : Int) := by subst h; simp
theorem slot_next' {j jq : Nat} {x : Int} (h : x = (jq : Int)) : Value.int .i64 x = Value.int .i64 (jq : Int) := by rw [h]
theorem le_next {n j jq : Nat} (h1 : j < n) (h2 : jq = j + 1) : jq ≤ n := by omega
theorem meas_next2 {most j jq : Nat} (h1 : j < most) (h2 : jq = j + 1) : most - (intOf (.int .i64 ((j : Int) + 1))).toNat < most - (intOf (.int .i64 (j : Int))).toNat := by
 simp only [intOf]; omega
theorem meas_next3 {most j jq : Nat} {x : Int} (h : x = (jq : Int)) (h1 : j < most) (h2 : jq = j + 1) : most - (intOf (.int .i64 x)).toNat < most - (intOf (.int .i64 (j : Int))).toNat := by
 simp only [intOf]; omega
theorem get3 {α : Type} {l : List α} (h : l.length = 3) {j : Nat} (hj : j < 3) : ∃ x, l[j]? = some x := ⟨l[j]'(by omega), List.getElem?_eq_getElem _⟩
theorem eq3 {j n : Nat} (h : j ≤ n) (h' : ¬ j < n) : j = n := by omega
theorem wq3 {j jq : Nat} (hj : j < 1000) (h : jq = j + 1) : wrap64 ((j : Int) + 1) = (jq : Int) := by rw [IntWalk.wrap64_in _ (by omega)]; omega
theorem lt_int {j n : Nat} (h : j < n) : (j : Int) < (n : Int) := by omega
abbrev Pk := Int × Int × Int
def pkE (p : Pk) : List Value := [.int .i64 p.1, .int .i64 p.2.1, .int .i64 p.2.2]
theorem pkE_len (p : Pk) : (pkE p).length = 3 := rfl
theorem wv_back {K : CodeK} {w2 Z : World} {A B C b7 : Nat} {q : Option Nat} {cr : Int} {v : Value} {m : Mc} {ts : List (Tk K.C)} {bs : List Bool} (h : WV K w2 (fun b => (A ≤ b ∧ b < B) ∨ C ≤ b) q cr v m ts bs) (hg : GrL [b7] w2 Z) (h1 : B ≤ b7) (h2 : b7 < C) : WV K Z (fun b => (A ≤ b ∧ b < B) ∨ C ≤ b) q cr v m ts bs :=
 h.kp (hg.kp fun g hg h => by
  simp only [List.mem_cons, List.not_mem_nil, or_false] at hg
  subst hg
  rcases h with h | h
  ·have := h.2; omega
  ·omega)
theorem wv_fold {K : CodeK} {Y w' : World} {A B C : Nat} {q : Option Nat} {cr : Int} {v : Value} {m : Mc} {ts : List (Tk K.C)} {bs : List Bool} (h : WV K w' (fun b => (((A ≤ b ∧ b < B) ∨ C ≤ b) ∧ b < Y.heap.size) ∨ Y.heap.size ≤ b) q cr v m ts bs) (hC : C ≤ Y.heap.size) : WV K w' (fun b => (A ≤ b ∧ b < B) ∨ C ≤ b) q cr v m ts bs :=
 h.imp fun b hb => by
  rcases hb with hb | hb
  ·exact hb.1
  ·exact .inr (by omega)
theorem wv_of {K : CodeK} {w : World} {P : Nat → Prop} {q : Option Nat} {cr : Int} {m : Mc} {ts : List (Tk K.C)} {bs : List Bool} {pa va fa la sa ta ba : Option Addr} {pn pc vn vc fn fc ln lc sn sc tn tc bn bc : Nat} (h : WR K w P (.slice pa pn pc) (.slice va vn vc) (.slice fa fn fc) (.slice la ln lc) (.slice sa sn sc) (.slice ta tn tc) (.slice ba bn bc) m ts bs) : WV K w P q cr (.agg #[.slice pa pn pc, .slice va vn vc, .slice fa fn fc, .slice la ln lc, .map q, .slice sa sn sc, .int .i64 cr, .slice ta tn tc, .slice ba bn bc]) m ts bs :=
 ⟨_, _, _, _, _, _, _, _, _, _, _, _, _, _, _, _, _, _, _, _, _, rfl, h⟩
theorem wv_lit {K : CodeK} {w : World} {P : Nat → Prop} {q : Option Nat} {cr : Int} {m : Mc} {ts : List (Tk K.C)} {bs : List Bool} {pa va fa la sa ta ba : Option Addr} {pn pc vn vc fn fc ln lc sn sc tn tc bn bc : Nat} (h : WV K w P q cr (.agg #[.slice pa pn pc, .slice va vn vc, .slice fa fn fc, .slice la ln lc, .map q, .slice sa sn sc, .int .i64 cr, .slice ta tn tc, .slice ba bn bc]) m ts bs) : WR K w P (.slice pa pn pc) (.slice va vn vc) (.slice fa fn fc) (.slice la ln lc) (.slice sa sn sc) (.slice ta tn tc) (.slice ba bn bc) m ts bs := by
 obtain ⟨_, _, _, _, _, _, _, _, _, _, _, _, _, _, _, _, _, _, _, _, _, he, h⟩ := h
 simp only [Value.agg.injEq, Array.mk.injEq, List.cons.injEq, Value.slice.injEq, and_true, true_and] at he
 obtain ⟨⟨rfl, rfl, rfl⟩, ⟨rfl, rfl, rfl⟩, ⟨rfl, rfl, rfl⟩, ⟨rfl, rfl, rfl⟩, ⟨rfl, rfl, rfl⟩, ⟨rfl, rfl, rfl⟩, ⟨rfl, rfl, rfl⟩⟩ := he
 exact h
end Go.Proofs.YtadilekaombofaaDoor
