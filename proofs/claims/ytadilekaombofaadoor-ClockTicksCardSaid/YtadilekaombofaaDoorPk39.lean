/- Worlds of tasks while a block that lies apart changes: a map of the caller's own. No condition. -/
import Derived.Test.YtadilekaombofaaDoorPk29
namespace Go.Proofs.YtadilekaombofaaDoor
set_option linter.unusedSimpArgs false
set_option linter.unusedVariables false
open Go.RowKit Go.Maps
section
variable {w w' : World} {P : Nat → Prop}
theorem AgP.cell (h : AgP P w w') {n i : Nat} (hn : P n) (hl : n < w.heap.size) : w'.cell? ⟨n, i, none⟩ = w.cell? ⟨n, i, none⟩ := World.cell?_of_block (w := w) (h.2 n hn hl)
theorem Sp.agp {α : Type} {size : Nat} {enc : α → List Value} {v : Value} {l : List α} (h : Sp w P size enc v l) (k : AgP P w w') : Sp w' P size enc v l := by
 refine ⟨?_, h.2⟩
 obtain ⟨⟨a, c, rfl, hm, hl⟩, hp⟩ := h
 refine ⟨a, c, rfl, hm, fun hn => ?_⟩
 obtain ⟨b, o, rfl, hbl, hc⟩ := hl hn
 refine ⟨b, o, rfl, Nat.lt_of_lt_of_le hbl k.1, fun i x hx j hj => ?_⟩
 rw [k.cell (hp hn _ _ _ rfl) hbl]
 exact hc i x hx j hj
theorem VwR.agp {v : Value} {f : Int → Nat} (h : VwR w P v f) (k : AgP P w w') : VwR w' P v f := Or.imp id (fun ⟨b, h1, h2, h3⟩ => ⟨b, h1, by
 have hb : b < w.heap.size := by obtain ⟨D, n, q1, _⟩ := h2; exact q1.lt
 obtain ⟨D, n, ⟨es, clock, q1, q2⟩, q3⟩ := h2
 exact ⟨D, n, ⟨es, clock, by rw [k.2 b h3 hb]; exact q1, q2⟩, q3⟩, h3⟩) h
theorem HsR.agp {v : Value} {l : List Mg} (h : HsR w P v l) (k : AgP P w w') : HsR w' P v l := by
 obtain ⟨raw, h1, h2, h3⟩ := h
 exact ⟨raw, h1.agp k, h2, fun i r m a b => ⟨(h3 i r m a b).1, (h3 i r m a b).2.1, (h3 i r m a b).2.2.agp k⟩⟩
theorem MeR.agp {pv vv : Value} {m : Me} (h : MeR w P pv vv m) (k : AgP P w w') : MeR w' P pv vv m := by
 obtain ⟨⟨hs, h1, h2, h3⟩, qs, q1, q2, q3⟩ := h
 exact ⟨⟨hs, h1.agp k, h2, fun i a b c d => (h3 i a b c d).agp k⟩, qs, q1.agp k, q2, fun i a b c d => (q3 i a b c d).agp k⟩
theorem LnR.agp {fv lv : Value} {m : Ln} (h : LnR w P fv lv m) (k : AgP P w w') : LnR w' P fv lv m := by
 obtain ⟨h1, rs, q1, q2, q3⟩ := h
 exact ⟨h1.agp k, rs, q1.agp k, q2, fun i a b c d => ⟨(q3 i a b c d).1, (q3 i a b c d).2.agp k⟩⟩
theorem WV.agp {K : CodeK} {q : Option Nat} {cr : Int} {v : Value} {m : Mc} {ts : List (Tk K.C)} {bs : List Bool} (h : WV K w P q cr v m ts bs) (k : AgP P w w') : WV K w' P q cr v m ts bs := by
 obtain ⟨pa, va, fa, la, sa, ta, ba, pn, pc, vn, vc, fn, fc, ln, lc, sn, sc, tn, tc, bn, bc, rfl, ⟨h1, h2, h3⟩, ⟨raw, q1, q2, q3⟩, h5⟩ := h
 exact ⟨pa, va, fa, la, sa, ta, ba, pn, pc, vn, vc, fn, fc, ln, lc, sn, sc, tn, tc, bn, bc, rfl, ⟨h1.agp k, h2.agp k, h3.agp k⟩, ⟨raw, q1.agp k, q2, fun i a b c d => ⟨(q3 i a b c d).1, K.st (q3 i a b c d).2.1 k, (q3 i a b c d).2.2.agp k⟩⟩, h5.agp k⟩
theorem WV.gro {K : CodeK} {q : Option Nat} {cr : Int} {v : Value} {m : Mc} {ts : List (Tk K.C)} {bs : List Bool} (h : WV K w P q cr v m ts bs) {mb : Nat} (k : w.grownBy w' (some mb)) (hm : ¬ P mb) : WV K w' P q cr v m ts bs :=
 h.agp ⟨k.size, fun b hb hl => k.block b hl (fun e => hm (by simp at e; rw [← e]; exact hb))⟩
end
end Go.Proofs.YtadilekaombofaaDoor
