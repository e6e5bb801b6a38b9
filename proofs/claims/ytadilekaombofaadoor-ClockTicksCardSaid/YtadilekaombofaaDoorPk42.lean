/- Helpers of ClockTicks' walk: the law's own map, tasks as cells, what a pick does told in forms. No condition. -/
import Derived.Test.YtadilekaombofaaDoorPk38
import Derived.Test.YtadilekaombofaaDoorPk39
import Derived.Test.YtadilekaombofaaDoorPk40
import Derived.Test.YtadilekaombofaaDoorPk41
namespace Go.Proofs.YtadilekaombofaaDoor
set_option linter.unusedSimpArgs false
set_option linter.unusedVariables false
open Go.RowKit Go.Maps
theorem Tryd.zeroBool26 (w : World) : (zeroValue 4).run Tryd.prog w = .ok (.bool false) w := by kernel_rfl
def Met26 (w : World) (b n : Nat) (f : Int → Bool) : Prop := MapF (elBool Tryd.prog 4 Tryd.underlying4 Tryd.zeroBool26) 2 w b n f
theorem three_sl {w : World} {b : Nat} {x y z : Bool} (h : Blk w b [.bool x, .bool y, .bool z]) : Sl w 1 blE (.slice (some ⟨b, 0, none⟩) 3 3) [x, y, z] := sl_blk (l := [x, y, z]) blE_len h (by simp) (by simp)
theorem word26 {w : World} {P : Nat → Prop} {pa va fa la sa : Option Addr} {pn pc vn vc fn fc ln lc sn sc : Nat} {tv bv : Value} {m : Mc} {ts : List (Tk ckK.C)} {bs : List Bool} {cv : Int} {n : Nat} (h : WR ckK w P (.slice pa pn pc) (.slice va vn vc) (.slice fa fn fc) (.slice la ln lc) (.slice sa sn sc) tv bv m ts bs) (hg : G26 m (cv, 0, 0) n) (hn : n ≤ 1000) :
 Calls Tryd.prog 6 #[.agg #[.slice pa pn pc, .slice va vn vc, .slice fa fn fc, .slice la ln lc, .map none, .slice sa sn sc, .int .i64 0], .int .i64 0] w fun e w' => e = .returned (.tuple #[.agg #[.int .i64 cv, .int .u32 0, .int .u32 0], .bool true]) ∧ Ext w w' := by
 obtain ⟨⟨l, y4, f, hl1, hl2, hl3⟩, hpn, -⟩ := hg
 exact mcword_any none 0 h.1 0 l hl1 (by have := h.1.plen; omega) cv 0 0 y4 f hl2 (by omega)
theorem met_start (time x : Int) : false = decide (time + 1 ≤ x ∧ x ≤ time) := by rw [eq_comm, decide_eq_false_iff_not]; omega
theorem met_up {time cv : Int} (hc : time ≤ cv) {f : Int → Bool} (h : ∀ x, f x = decide (time + 1 ≤ x ∧ x ≤ cv)) (x : Int) : (if x = cv + 1 then true else f x) = decide (time + 1 ≤ x ∧ x ≤ cv + 1) := by
 by_cases hx : x = cv + 1
 ·rw [if_pos hx, eq_comm, decide_eq_true_iff]; omega
 ·rw [if_neg hx, h x, decide_eq_decide]; omega
theorem met_no {time cv : Int} {f : Int → Bool} (h : ∀ x, f x = decide (time + 1 ≤ x ∧ x ≤ cv)) : f (cv + 1) = false := by
 rw [h, decide_eq_false_iff_not]; omega
theorem three_le {x y z : Bool} : 0 < [x, y, z].length ∧ [x, y, z].length ≤ 3 := by simp
theorem GrL.grown {g : Nat} {w w' : World} (h : GrL [g] w w') : w.grownBy w' (some g) :=
 ⟨h.1.1, h.1.2.1, h.1.2.2, h.size, fun i hi hne => h.block hi (by simp only [List.mem_cons, List.not_mem_nil, or_false]; intro e; exact hne (by rw [e]))⟩
theorem Gr2.grl {a b : Nat} {w w' w2 : World} (h : Gr2 a b w w') (k : GrL [a] w' w2) : Gr2 a b w w2 :=
 ⟨Nat.le_trans h.1 k.size, fun j hj h1 h2 => (k.block (Nat.lt_of_lt_of_le hj h.1) (by simp; exact h1)).trans (h.2 j hj h1 h2)⟩
theorem Gr2.gro {a b : Nat} {w w' w2 : World} (h : Gr2 a b w w') (k : w'.grownBy w2 (some b)) : Gr2 a b w w2 :=
 ⟨Nat.le_trans h.1 k.size, fun j hj h1 h2 => (k.block j (Nat.lt_of_lt_of_le hj h.1) (by simp; exact h2)).trans (h.2 j hj h1 h2)⟩
theorem Met26.grl {w w' : World} {b n g : Nat} {f : Int → Bool} (h : Met26 w b n f) (k : GrL [g] w w') (hb : b ≠ g) : Met26 w' b n f := MapF.kept _ h k.grown (by simp [hb])
theorem Met26.of {w w' : World} {b n : Nat} {f : Int → Bool} (h : Met26 w b n f) (k : Ext w w') : Met26 w' b n f := MapF.of _ h k
theorem Blk.bool_at {w : World} {b : Nat} {x y z : Bool} (h : Blk w b [.bool x, .bool y, .bool z]) {i : Nat} {t : Bool} (ht : [x, y, z][i]? = some t) : w.cell? ⟨b, i, none⟩ = some (.bool t) := by
 have h1 : ([x, y, z].map Value.bool)[i]? = some (.bool t) := by rw [List.getElem?_map, ht]; rfl
 exact h.2.2 i _ h1
def C11 (w : World) (b o : Nat) (l : List Value) : Prop := b < w.heap.size ∧ ∀ (j : Nat) (v : Value), l[j]? = some v → w.cell? ⟨b, o + j, none⟩ = some v
theorem C11.of {w w' : World} {b o : Nat} {l : List Value} (h : C11 w b o l) (he : Ext w w') : C11 w' b o l := by
 have hb := he.below
 exact ⟨Nat.lt_of_lt_of_le h.1 hb.size, fun j v hv => by rw [World.cell?_of_block (w := w) (hb.block b h.1)]; exact h.2 j v hv⟩
theorem C11.open {w : World} {b o : Nat} {v0 v1 v2 v3 v4 v5 v6 v7 v8 v9 v10 : Value} (h : C11 w b o [v0, v1, v2, v3, v4, v5, v6, v7, v8, v9, v10]) :
 b < w.heap.size ∧ w.cell? ⟨b, o, none⟩ = some v0 ∧ w.cell? ⟨b, o + 1, none⟩ = some v1 ∧ w.cell? ⟨b, o + 2, none⟩ = some v2 ∧ w.cell? ⟨b, o + 3, none⟩ = some v3 ∧ w.cell? ⟨b, o + 4, none⟩ = some v4 ∧ w.cell? ⟨b, o + 5, none⟩ = some v5 ∧ w.cell? ⟨b, o + 6, none⟩ = some v6 ∧ w.cell? ⟨b, o + 7, none⟩ = some v7 ∧ w.cell? ⟨b, o + 8, none⟩ = some v8 ∧ w.cell? ⟨b, o + 9, none⟩ = some v9 ∧ w.cell? ⟨b, o + 10, none⟩ = some v10 :=
 ⟨h.1, h.2 0 _ rfl, h.2 1 _ rfl, h.2 2 _ rfl, h.2 3 _ rfl, h.2 4 _ rfl, h.2 5 _ rfl, h.2 6 _ rfl, h.2 7 _ rfl, h.2 8 _ rfl, h.2 9 _ rfl, h.2 10 _ rfl⟩
theorem task_under {w : World} {P : Nat → Prop} {a : Option Addr} {n c : Nat} {l : List (Tk ckK.C)} (h : TsR ckK w P (.slice a n c) l) {i : Nat} {k : Tk ckK.C} (hk : l[i]? = some k) {tk : Bool} {st tm : Int} {ai : A8} {g : List Gt} (he : k = ⟨(⟨0, tk, st, tm⟩ : Ck), ai, false, g⟩) :
 ∃ (b o : Nat) (p1 p2 p3 p4 p5 p6 p7 p8 : Int) (ga : Option Addr) (gc : Nat), a = some ⟨b, o, none⟩ ∧ C11 w b (o + i * 11) [.iface ckT (.agg #[.int .i64 0, .bool tk, .int .i64 st, .int .i64 tm]), .func (.method "Next") #[.iface ckT (.agg #[.int .i64 0, .bool tk, .int .i64 st, .int .i64 tm])] #[], .int .i64 p1, .int .i64 p2, .int .i64 p3, .int .u32 p4, .int .u32 p5, .int .i64 p6, .int .u32 p7, .int .u32 p8, .slice ga g.length gc] := by
 subst he
 obtain ⟨r, b, o, rfl, hb, _, hr, hc⟩ := h.at hk
 obtain ⟨cv, ⟨a0, d⟩, ga, gn, gc⟩ := r
 obtain ⟨hrd, ⟨rfl, -⟩, hrg⟩ := hr
 have hgn := hrg.lenN
 dsimp only at hrd hc hgn
 cases hrd
 subst hgn
 obtain ⟨p1, p2, ⟨p3, p4, p5⟩, p6, p7, p8⟩ := ai
 refine ⟨b, o, p1, p2, p3, p4, p5, p6, p7, p8, ga, gc, rfl, hb, fun j v hv => ?_⟩
 have hj : j < 11 := (List.getElem?_eq_some_iff.1 hv).1
 rw [hc j hj]; exact hv
theorem task_over {w : World} {P : Nat → Prop} {a : Option Addr} {n c : Nat} {l : List (Tk ckK.C)} (h : TsR ckK w P (.slice a n c) l) {i : Nat} {k : Tk ckK.C} (hk : l[i]? = some k) {tk : Bool} {tm : Int} {ai : A8} {g : List Gt} (he : k = ⟨(⟨0, tk, 3, tm⟩ : Ck), ai, true, g⟩) :
 ∃ (b o : Nat) (ga : Option Addr) (gc : Nat), a = some ⟨b, o, none⟩ ∧ C11 w b (o + i * 11) [.iface ckT (.agg #[.int .i64 0, .bool tk, .int .i64 3, .int .i64 tm]), .nilFunc, .int .i64 0, .int .i64 0, .int .i64 0, .int .u32 0, .int .u32 0, .int .i64 0, .int .u32 0, .int .u32 0, .slice ga g.length gc] := by
 subst he
 obtain ⟨r, b, o, rfl, hb, _, hr, hc⟩ := h.at hk
 obtain ⟨cv, ⟨a0, d⟩, ga, gn, gc⟩ := r
 obtain ⟨hrd, ⟨rfl, -⟩, hrg⟩ := hr
 have hgn := hrg.lenN
 dsimp only at hrd hc hgn
 cases hrd
 subst hgn
 refine ⟨b, o, ga, gc, rfl, hb, fun j v hv => ?_⟩
 have hj : j < 11 := (List.getElem?_eq_some_iff.1 hv).1
 rw [hc j hj]; exact hv
theorem TI.forms {time cv : Int} {tick : Bool} {k : Tk ckK.C} (h : TI time cv tick k) :
 (∃ (st tm : Int) (ai : A8) (g : List Gt), k = ⟨(⟨0, tick, st, tm⟩ : Ck), ai, false, g⟩ ∧ ¬ st = 3 ∧ (tick = false → g.length ≤ 1)) ∨
 (∃ (tm : Int) (ai : A8) (g : List Gt), k = ⟨(⟨0, tick, 3, tm⟩ : Ck), ai, true, g⟩ ∧ (tick = false → g.length ≤ 1)) := by
 obtain ⟨⟨a0, tk, st, tm⟩, a, d, g, rfl, e1, e2, h⟩ := h
 dsimp only at e1 e2 h
 subst e1 e2
 rcases h with ⟨rfl, rfl, _, rfl⟩ | ⟨rfl, rfl, rfl, _⟩ | ⟨rfl, rfl, h⟩
 ·exact .inl ⟨1, tm, a, [], rfl, by decide, fun _ => by simp⟩
 ·exact .inl ⟨2, tm, a, g, rfl, by decide, fun h => by cases h⟩
 ·refine .inr ⟨tm, a, g, rfl, fun h0 => ?_⟩
  rcases h with ⟨h1, _⟩ | ⟨_, h1⟩
  ·rw [h1] at h0; cases h0
  ·exact h1
theorem pick26f {time cv : Int} {ticks : List Bool} {ts : List (Tk ckK.C)} {bs : List Bool} {m : Mc} {n : Nat} (hg : G26 m (cv, 0, 0) n) (hn : n ≤ 1000) (hI : Inv time cv ticks ts n) (hbl : bs.length = ts.length) (kd t ch : Int) (h2 : ¬ kd = 2) :
 StepNo ckK none 0 kd t ch (m, ts) bs ∨
 (kd = 1 ∧ ∃ i : Nat, t = i + 1 ∧ i < 3 ∧ StepOk ckK none 0 1 t ch (m, ts) (m, ts) bs (bs.set i true)) ∨
 (kd = 0 ∧ ∃ (i : Nat) (ts' : List (Tk ckK.C)) (tick : Bool) (m' : Mc) (cv' : Int) (k' : Tk ckK.C), t = i + 1 ∧ i < 3 ∧ ticks[i]? = some tick ∧ ts'[i]? = some k' ∧ StepOk ckK none 0 0 t ch (m, ts) (m', ts') bs bs ∧ G26 m' (cv', 0, 0) (n + 1) ∧ Inv time cv' ticks ts' (n + 1) ∧
  ((cv = cv' ∧ ∃ (st tm : Int) (ai : A8) (g : List Gt), k' = ⟨(⟨0, tick, st, tm⟩ : Ck), ai, false, g⟩) ∨
   (cv = cv' ∧ tick = false ∧ ∃ (ai : A8) (g : List Gt), k' = ⟨(⟨0, false, 3, cv⟩ : Ck), ai, true, g⟩) ∨
   (cv' = cv + 1 ∧ tick = true ∧ ∃ (ai : A8) (g : List Gt), k' = ⟨(⟨0, true, 3, cv + 1⟩ : Ck), ai, true, g⟩))) := by
 have hl3 : ts.length = 3 := hI.len.trans hI.n3
 rcases pick26 hg hn hI hbl kd t ch h2 with h | ⟨h1, i, h3, h4, h5⟩ | ⟨h1, i, k, k', tick, m', cv', hki, hk, htk, hkd, hst, hg', hi', hti, hcs⟩
 ·exact .inl h
 ·exact .inr (.inl ⟨h1, i, h3, by omega, h5⟩)
 ·have hi3 := (List.getElem?_eq_some_iff.1 hk).1
  refine .inr (.inr ⟨h1, i, ts.set i k', tick, m', cv', k', hki, by omega, htk, List.getElem?_set_self hi3, hst, hg', hi', ?_⟩)
  rcases hcs with ⟨rfl, h | ⟨rfl, h3, h4⟩⟩ | ⟨rfl, rfl, h3, h4⟩
  ·rcases hti.forms with ⟨st, tm, ai, g, rfl, _⟩ | ⟨tm, ai, g, rfl, _⟩
   ·exact .inl ⟨rfl, st, tm, ai, g, rfl⟩
   ·cases h
  ·rcases hti.forms with ⟨st, tm, ai, g, rfl, _⟩ | ⟨tm, ai, g, rfl, _⟩
   ·cases h3
   ·dsimp only at h4; subst h4; exact .inr (.inl ⟨rfl, rfl, ai, g, rfl⟩)
  ·rcases hti.forms with ⟨st, tm, ai, g, rfl, _⟩ | ⟨tm, ai, g, rfl, _⟩
   ·cases h3
   ·dsimp only at h4; subst h4; exact .inr (.inr ⟨rfl, rfl, ai, g, rfl⟩)
theorem dv_ok {time cv dv : Int} {ticks : List Bool} {ts : List (Tk ckK.C)} {n : Nat} (h : dv = cv - time) (hI : Inv time cv ticks ts n) (hn : n ≤ 1000) : wrap64 (time + dv) = cv := by
 have h1 := hI.lo; have h2 := hI.cv
 rw [show time + dv = cv by omega]; exact IntWalk.wrap64_in _ (by omega)
theorem dv_up {time cv dv : Int} {ticks : List Bool} {ts : List (Tk ckK.C)} {n : Nat} (h : dv = cv - time) (hI : Inv time cv ticks ts n) (hn : n ≤ 1000) : ∃ dq, wrap64 (dv + 1) = dq ∧ wrap64 (time + dq) = cv + 1 ∧ dq = cv + 1 - time ∧ (Lit.int .i64 (cv + 1)).wf = true := by
 have h1 := hI.lo; have h2 := hI.cv
 refine ⟨dv + 1, IntWalk.wrap64_in _ (by omega), by rw [show time + (dv + 1) = cv + 1 by omega]; exact IntWalk.wrap64_in _ (by omega), by omega, WalkArith.wf_i64 (by omega)⟩
theorem pick_int {k2 : Int} {i : Nat} (h : k2 = i + 1) (hi : i < 3) : wrap64 (k2 - 1) = (i : Int) ∧ k2 - 1 = (i : Int) ∧ (i : Int) < 3 ∧ decide ((1 : Int) ≤ k2) = true ∧ decide (k2 ≤ 3) = true := by
 refine ⟨by rw [show k2 - 1 = (i : Int) by omega]; exact IntWalk.wrap64_in _ (by omega), by omega, by omega, decide_eq_true (by omega), decide_eq_true (by omega)⟩
theorem tn_three {w : World} {P : Nat → Prop} {a : Option Addr} {n c : Nat} {ts : List (Tk ckK.C)} {time cv : Int} {ticks : List Bool} {q : Nat} (h : TsR ckK w P (.slice a n c) ts) (hI : Inv time cv ticks ts q) : n = 3 := by
 have := h.len; have := hI.len; have := hI.n3; omega
theorem n_small {n j qn : Nat} (h : n ≤ j + 1) (h2 : j ≤ qn) (h3 : qn ≤ 100) : n ≤ 1000000 := by omega
theorem WR.gro {w w' : World} {P : Nat → Prop} {m : Mc} {ts : List (Tk ckK.C)} {bs : List Bool} {pa va fa la sa ta ba : Option Addr} {pn pc vn vc fn fc ln lc sn sc tn tc bn bc : Nat} (h : WR ckK w P (.slice pa pn pc) (.slice va vn vc) (.slice fa fn fc) (.slice la ln lc) (.slice sa sn sc) (.slice ta tn tc) (.slice ba bn bc) m ts bs) {mb : Nat} (k : w.grownBy w' (some mb)) (hm : ¬ P mb) : WR ckK w' P (.slice pa pn pc) (.slice va vn vc) (.slice fa fn fc) (.slice la ln lc) (.slice sa sn sc) (.slice ta tn tc) (.slice ba bn bc) m ts bs :=
 wv_lit (WV.gro (q := none) (cr := 0) (wv_of h) k hm)
theorem gl_le {g : List Gt} (h : g.length ≤ 1) : ¬ (1 : Int) < ((g.length : Nat) : Int) ∧ ((g.length : Nat) : Int) ≤ 1 := by omega
end Go.Proofs.YtadilekaombofaaDoor
