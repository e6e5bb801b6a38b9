/- The clock in its world: what a pick does (plain), and that the code's step does it. -/
import Derived.Test.YtadilekaombofaaDoorPk29
import Derived.Test.YtadilekaombofaaDoorPk33
namespace Go.Proofs.YtadilekaombofaaDoor
set_option linter.unusedSimpArgs false
set_option linter.unusedVariables false
open Go.RowKit Go.Maps
abbrev ckK : CodeK where
 T := ckT
 F := 114
 hT := codeT_ck
 C := Ck
 R := fun _ _ v c => v = .agg (ckL c).toArray ∧ 0 ≤ c.st ∧ c.st ≤ 3
 st := fun h _ => h
 imp := fun h _ => h
 bnd := fun h => h
 Gd := fun _ => True
 nx := ckNext
 ok := by
  rintro w P v ⟨a, tk, st, tm⟩ _ ⟨rfl, h0, h3⟩ ⟨⟨g1, g2, g3⟩, ok⟩ _
  refine (cknext_any a tk st tm ⟨h0, h3⟩ g1 g2 g3 ok w).mono ?_
  rintro e w' ⟨rfl, he⟩
  refine ⟨_, rfl, he, rfl, ?_⟩
  dsimp only at h0 h3
  unfold ckNext
  dsimp only
  split
  ·exact ⟨h0, h3⟩
  ·split
   ·exact ⟨by dsimp only; omega, by dsimp only; omega⟩
   ·split
    ·exact ⟨by dsimp only; omega, by dsimp only; omega⟩
    ·split
     ·exact ⟨by dsimp only; omega, by dsimp only; omega⟩
     ·exact ⟨by dsimp only; omega, by dsimp only; omega⟩
structure G26 (m : Mc) (c : Wd) (n : Nat) : Prop where
 pl : ∃ l x4 f, m.me.pl[0]? = some l ∧ l[l.length - 1]? = some ⟨c, x4, f⟩ ∧ l.length ≤ n + 1
 pn : m.me.pl.length ≤ 4096
 vn : m.me.vs.length = 3
 fn : m.ln.first.length = m.me.pl.length
 lg : ∃ ll, m.ln.logs[0]? = some ll ∧ ll.1.length ≤ n
 lo : m.ln.logs.length ≤ 1000
 st : m.st.length = 3 ∧ ∀ (i : Nat) (s : Int), m.st[i]? = some s → 0 ≤ s ∧ s ≤ n
theorem G26.up {m : Mc} {c : Wd} {n : Nat} (h : G26 m c n) : G26 m c (n + 1) := by
 obtain ⟨⟨l, x4, f, h1, h2, h3⟩, h4, h5, h6, ⟨ll, h7, h8⟩, h9, h10, h11⟩ := h
 exact ⟨⟨l, x4, f, h1, h2, by omega⟩, h4, h5, h6, ⟨ll, h7, by omega⟩, h9, h10, fun i s hs => by have := h11 i s hs; omega⟩
def cl26 (a : A8) (c : Wd) : Wd := if a.op = 6 ∧ c = a.o then a.n else c
def got26 (a : A8) (c : Wd) : Gt := (c, if a.op = 6 then decide (c = a.o) else true)
def DoAll (q : Option Nat) (cr : Int) (m : Mc) (t : Int) (a : A8) (ch : Int) (g : Gt) (m' : Mc) : Prop :=
 ∀ (W : World) (P : Nat → Prop) (pa va fa la sa : Option Addr) (pn pc vn vc fn fc ln lc sn sc : Nat), (∀ b, P b → b < W.heap.size) → McR W P (.slice pa pn pc) (.slice va vn vc) (.slice fa fn fc) (.slice la ln lc) (.slice sa sn sc) m → DoOk W P #[.slice pa pn pc, .slice va vn vc, .slice fa fn fc, .slice la ln lc, .map q, .slice sa sn sc, .int .i64 cr] q cr fa pn vn fn fc ln sn t a ch g m'
theorem last_app {α : Type} (l : List α) (x : α) : (l ++ [x])[(l ++ [x]).length - 1]? = some x := by simp
theorem do26 {m : Mc} {c : Wd} {n : Nat} (hg : G26 m c n) (hn : n ≤ 100000) (i : Nat) (hi : i < 3) (a : A8) (h0 : a.at_ = 0) (hop : a.op = 5 ∨ a.op = 6) (q : Option Nat) (cr ch : Int) :
 ∃ m', G26 m' (cl26 a c) (n + 1) ∧ DoAll q cr m ((i + 1 : Nat) : Int) a ch (got26 a c) m' := by
 obtain ⟨⟨l, x4, g, h1, h2, h3⟩, h4, h5, h6, ⟨ll, h7, h8⟩, h9, h10, h11⟩ := id hg
 obtain ⟨f, hf⟩ : ∃ f, m.me.vs[i]? = some f := ⟨m.me.vs[i]'(by omega), List.getElem?_eq_getElem _⟩
 obtain ⟨s, hs⟩ : ∃ s, m.st[i]? = some s := ⟨m.st[i]'(by omega), List.getElem?_eq_getElem _⟩
 have hsr := h11 i s hs
 have hpl := (List.getElem?_eq_some_iff.1 h1).1
 obtain ⟨c1, c2, c3⟩ := c
 obtain ⟨op, at_, ⟨o1, o2, o3⟩, n1, n2, n3⟩ := a
 dsimp only at h0 hop
 subst h0
 have hst : ∀ s' : Int, 0 ≤ s' → s' ≤ n + 1 → (m.st.set i s').length = 3 ∧ ∀ (j : Nat) (x : Int), (m.st.set i s')[j]? = some x → 0 ≤ x ∧ x ≤ (n + 1 : Nat) := fun s' h1 h2 => ⟨by rw [List.length_set]; exact h10, fun j x hx => by
  by_cases hj : i = j
  ·subst hj
   rw [List.getElem?_set_self (by omega)] at hx
   cases hx; omega
  ·rw [List.getElem?_set_ne hj] at hx
   have := h11 j x hx; omega⟩
 by_cases hm : op = 6 ∧ (c1, c2, c3) = (o1, o2, o3)
 ·obtain ⟨rfl, hce⟩ := hm
  cases hce
  have hcl : cl26 ⟨6, 0, (c1, c2, c3), (n1, n2, n3)⟩ (c1, c2, c3) = (n1, n2, n3) := if_pos ⟨rfl, rfl⟩
  rw [hcl]
  refine ⟨⟨meSwaps m.me i 0 f g l (n1, n2, n3) (i + 1 : Nat), lnStores m.ln 0 ll 0 (n1, n2, n3), m.st.set i (s + 1)⟩, ⟨?_, ?_, ?_, ?_, ?_, ?_, ?_⟩, ?_⟩
  ·simp only [meSwaps, meAdds, meFinds]
   exact ⟨_, _, _, List.getElem?_set_self hpl, last_app l _, by rw [List.length_append]; simp; omega⟩
  ·simp only [meSwaps, meAdds, meFinds, List.length_set]; exact h4
  ·simp only [meSwaps, meAdds, meFinds, List.length_set]; exact h5
  ·simp only [meSwaps, meAdds, meFinds, lnStores, List.length_set]; exact h6
  ·exact ⟨_, by simp only [lnStores]; exact List.getElem?_set_self (List.getElem?_eq_some_iff.1 h7).1, by rw [List.length_append]; simp; omega⟩
  ·simp only [lnStores, List.length_set]; exact h9
  ·exact hst _ (by omega) (by omega)
  ·intro W P pa va fa la sa pn pc vn vc fn fc ln lc sn sc hP hM W' he
   have e1 := hM.plen
   have e2 := hM.vlen
   have e3 := hM.flen
   have hM' := hM.of he
   refine (mcdo_hit (w := W') (fun b hb => Nat.lt_of_lt_of_le (hP b hb) he.size) hM' q cr (i + 1) i rfl f hf (by omega) (by omega) (by omega) s hs (by omega) (by omega) 0 (by omega) l h1 c1 c2 c3 x4 g h2 (by omega) n1 n2 n3 ch (by omega) (by omega) 0 rfl ll h7 (by omega) h9).mono ?_
   rintro e w' ⟨pa', pc', va', vc', la', lc', sa', sc', rfl, he', hr⟩
   refine ⟨pa', pc', va', vc', la', lc', sa', sc', ?_, he', hr.imp (fun b hb => hb.imp id (fun h => h.1))⟩
   simp [got26]
 ·have hcl : cl26 ⟨op, 0, (o1, o2, o3), (n1, n2, n3)⟩ (c1, c2, c3) = (c1, c2, c3) := if_neg hm
  rw [hcl]
  refine ⟨⟨meFinds m.me i 0 (l.length - 1) true f g, m.ln, m.st.set i (s + 1)⟩, ⟨⟨l, x4, g, h1, h2, by omega⟩, h4, by simp only [meFinds, List.length_set]; exact h5, h6, ⟨ll, h7, by omega⟩, h9, hst _ (by omega) (by omega)⟩, ?_⟩
  intro W P pa va fa la sa pn pc vn vc fn fc ln lc sn sc hP hM W' he
  have e1 := hM.plen
  have e2 := hM.vlen
  have hM' := hM.of he
  rcases hop with rfl | rfl
  ·refine (mcdo_look (w := W') (fun b hb => Nat.lt_of_lt_of_le (hP b hb) he.size) hM' q cr (i + 1) i rfl f hf (by omega) (by omega) (by omega) s hs (by omega) (by omega) 0 (by omega) l h1 c1 c2 c3 x4 g h2 (by omega) o1 o2 o3 n1 n2 n3 ch).mono ?_
   rintro e w' ⟨va', vc', sa', sc', rfl, he', hr⟩
   refine ⟨pa, pc, va', vc', la, lc, sa', sc', ?_, he', hr.imp (fun b hb => hb.imp id (fun h => h.1))⟩
   simp [got26]
  ·have hne : ¬ (c1 = o1 ∧ c2 = o2 ∧ c3 = o3) := fun ⟨h1, h2, h3⟩ => hm ⟨rfl, by rw [h1, h2, h3]⟩
   refine (mcdo_miss (w := W') (fun b hb => Nat.lt_of_lt_of_le (hP b hb) he.size) hM' q cr (i + 1) i rfl f hf (by omega) (by omega) (by omega) s hs (by omega) (by omega) 0 (by omega) l h1 c1 c2 c3 x4 g h2 (by omega) o1 o2 o3 n1 n2 n3 ch hne).mono ?_
   rintro e w' ⟨va', vc', sa', sc', rfl, he', hr⟩
   refine ⟨pa, pc, va', vc', la, lc, sa', sc', ?_, he', hr.imp (fun b hb => hb.imp id (fun h => h.1))⟩
   simp [got26, hne]
end Go.Proofs.YtadilekaombofaaDoor
