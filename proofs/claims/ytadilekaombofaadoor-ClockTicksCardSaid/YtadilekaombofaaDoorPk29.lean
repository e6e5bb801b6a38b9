/- The world of tasks: Step at every pick, told of states. -/
import Derived.Test.YtadilekaombofaaDoorPk28
namespace Go.Proofs.YtadilekaombofaaDoor
set_option linter.unusedSimpArgs false
set_option linter.unusedVariables false
open Go.RowKit Go.Maps
theorem McR.vlen {w : World} {P : Nat → Prop} {pv fv lv sv : Value} {va : Option Addr} {vn vc : Nat} {m : Mc} (h : McR w P pv (.slice va vn vc) fv lv sv m) : vn = m.me.vs.length := by
 obtain ⟨qs, h1, h2, _⟩ := h.1.2
 have := h1.lenN
 omega
theorem McR.plen {w : World} {P : Nat → Prop} {vv fv lv sv : Value} {va : Option Addr} {vn vc : Nat} {m : Mc} (h : McR w P (.slice va vn vc) vv fv lv sv m) : vn = m.me.pl.length := by
 obtain ⟨qs, h1, h2, _⟩ := h.1.1
 have := h1.lenN
 omega
theorem McR.flen {w : World} {P : Nat → Prop} {pv vv lv sv : Value} {va : Option Addr} {vn vc : Nat} {m : Mc} (h : McR w P pv vv (.slice va vn vc) lv sv m) : vn = m.ln.first.length := h.2.1.1.lenN
section
variable {K : CodeK} {q : Option Nat} {cr : Int} {m : Mc} {ts : List (Tk K.C)} {bs : List Bool}
theorem step_no_out (hv : 0 < m.me.vs.length) (kd t ch : Int) (h2 : ¬ kd = 2) (ht : t < 1 ∨ (ts.length : Int) < t) : StepNo K q cr kd t ch (m, ts) bs := by
 rintro W P v ⟨pa, va, fa, la, sa, ta, ba, pn, pc, vn, vc, fn, fc, ln, lc, sn, sc, tn, tc, bn, bc, rfl, h⟩
 dsimp only at h
 have := h.1.vlen
 exact wStep_no q cr kd t ch (by omega) h2 false (.inl rfl) (fun W' he => wtakes_no (P := P) q cr (h.2.1.of he) t ht)
theorem step_no_at (hv : 0 < m.me.vs.length) (htl : ts.length ≤ 1000) (hbl : bs.length ≤ 1000) (kd ch : Int) (h2 : ¬ kd = 2) (t i : Nat) (hti : t = i + 1) (k : Tk K.C) (hk : ts[i]? = some k) (hno : (bs[i]?.getD false = true ∨ k.d = true) ∨ (¬ kd = 0 ∧ ¬ kd = 1)) : StepNo K q cr kd t ch (m, ts) bs := by
 rintro W P v ⟨pa, va, fa, la, sa, ta, ba, pn, pc, vn, vc, fn, fc, ln, lc, sn, sc, tn, tc, bn, bc, rfl, h⟩
 dsimp only at h
 have := h.1.vlen
 refine wStep_no q cr kd t ch (by omega) h2 (!bs[i]?.getD false && !k.d) ?_ (fun W' he => wtakes_any (P := P) q cr (h.2.1.of he) (h.2.2.of blE_len he) hbl t i hti k hk htl)
 rcases hno with (h | h) | h
 ·exact .inl (by rw [h]; rfl)
 ·exact .inl (by rw [h]; simp)
 ·exact .inr h
theorem step_stop_ok (hv : 0 < m.me.vs.length) (htl : ts.length ≤ 1000) (hbl : bs.length = ts.length) (ch : Int) (t i : Nat) (hti : t = i + 1) (k : Tk K.C) (hk : ts[i]? = some k) (hs : bs[i]?.getD false = false) (hd : k.d = false) : StepOk K q cr 1 t ch (m, ts) (m, ts) bs (bs.set i true) := by
 rintro W P v hP ⟨pa, va, fa, la, sa, ta, ba, pn, pc, vn, vc, fn, fc, ln, lc, sn, sc, tn, tc, bn, bc, rfl, h⟩
 dsimp only at h
 have h1 := h.1.vlen
 have h2 := h.2.1.len
 have h3 := h.2.2.lenN
 obtain rfl : bn = tn := by omega
 refine wStep_stop hP q cr t ch (by omega) (fun W' he => ?_) (fun W' he => ?_)
 ·have := wtakes_any (pa := pa) (va := va) (fa := fa) (la := la) (sa := sa) (pn := pn) (pc := pc) (vn := vn) (vc := vc) (fn := fn) (fc := fc) (ln := ln) (lc := lc) (sn := sn) (sc := sc) (P := P) q cr (h.2.1.of he) (h.2.2.of blE_len he) (by omega) t i hti k hk htl
  rw [hs, hd] at this
  exact this
 ·exact wstop_any (fun b hb => Nat.lt_of_lt_of_le (hP b hb) he.size) q cr (h.of he) htl t i hti (List.getElem?_eq_some_iff.1 hk).1
theorem step_go_ok (hv : 0 < m.me.vs.length) (htl : ts.length ≤ 1000) (hbl : bs.length ≤ 1000) (ch : Int) (t i : Nat) (hti : t = i + 1) (k : Tk K.C) (hk : ts[i]? = some k) (hs : bs[i]?.getD false = false) (hd : k.d = false) (hkg : k.g.length ≤ 10000) (g : Gt) (hg : K.Gd g) (m' : Mc)
 (hdo : ∀ (W : World) (P : Nat → Prop) (pa va fa la sa : Option Addr) (pn pc vn vc fn fc ln lc sn sc : Nat), (∀ b, P b → b < W.heap.size) → McR W P (.slice pa pn pc) (.slice va vn vc) (.slice fa fn fc) (.slice la ln lc) (.slice sa sn sc) m → DoOk W P #[.slice pa pn pc, .slice va vn vc, .slice fa fn fc, .slice la ln lc, .map q, .slice sa sn sc, .int .i64 cr] q cr fa pn vn fn fc ln sn t k.a ch g m') :
 StepOk K q cr 0 t ch (m, ts) (m', ts.set i (tkNext K k g)) bs bs := by
 rintro W P v hP ⟨pa, va, fa, la, sa, ta, ba, pn, pc, vn, vc, fn, fc, ln, lc, sn, sc, tn, tc, bn, bc, rfl, h⟩
 dsimp only at h
 have h1 := h.1.vlen
 refine wStep_go hP q cr t ch (by omega) (fun W' he => ?_) (fun W' he => ?_)
 ·have := wtakes_any (pa := pa) (va := va) (fa := fa) (la := la) (sa := sa) (pn := pn) (pc := pc) (vn := vn) (vc := vc) (fn := fn) (fc := fc) (ln := ln) (lc := lc) (sn := sn) (sc := sc) (P := P) q cr (h.2.1.of he) (h.2.2.of blE_len he) hbl t i hti k hk htl
  rw [hs, hd] at this
  exact this
 ·have hP' : ∀ b, P b → b < W'.heap.size := fun b hb => Nat.lt_of_lt_of_le (hP b hb) he.size
  refine (wstep_any hP' q cr (h.of he) htl t i hti k hk hd hkg ch g hg m' (hdo W' P pa va fa la sa pn pc vn vc fn fc ln lc sn sc hP' (h.1.of he))).mono ?_
  rintro e w' ⟨pa', pc', va', vc', la', lc', sa', sc', ta', tc', rfl, he', h'⟩
  exact ⟨_, rfl, he', _, _, _, _, _, _, _, _, _, _, _, _, _, _, _, _, _, _, _, _, _, rfl, h'⟩
end
end Go.Proofs.YtadilekaombofaaDoor
