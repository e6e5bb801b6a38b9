/- The world of tasks: step, over any code and any act that the machine takes. -/
import Derived.Test.YtiacdohaiidehaaGreatDoorPk16
namespace Go.Proofs.YtiacdohaiidehaaGreatDoor
set_option linter.unusedSimpArgs false
set_option linter.unusedVariables false
open Go.RowKit Go.Maps
theorem Tryz.info_tk : (Tryz.prog.info? 53).map (fun i => (i.zero, i.size, i.bytes)) = some (some (.agg #[.nilIface, .nilFunc, .int .i64 0, .int .i64 0, .int .i64 0, .int .u32 0, .int .u32 0, .int .i64 0, .int .u32 0, .int .u32 0, .slice none 0 0]), 11, 96) := by kernel_rfl
theorem tk_append {T : TypeId} {ops : Array Oper} {rest : List Oper} {o : Oper} {a : Act} {Q : Exit → Act → World → Prop} {w : World} {base : Nat} {v : Value} {l : List RTk} (hgd : o.guard = none)
 (s x : Operand) (ho : o.op = .call { callee := .builtin .append, args := #[s, x], argTypes := #[90, 90] })
 (W : World) (hW : Ext W w) (hWb : W.heap.size ≤ base) (hbw : base ≤ w.heap.size) (hs : a.eval s = v) (hown : Own w base 53 11 (tkE T) v l)
 (ad : Addr) (m c : Nat) (hx : a.eval x = .slice (some ad) m c) (news : List RTk) (hm : news.length = m)
 (hnews : ∀ (j : Nat) (u : Value), (news.flatMap (tkE T))[j]? = some u → w.cell? (ad.add j) = some u)
 (hlen : l.length + m ≤ 1000000)
 (h : ∀ v' r, Own (ext W r) base 53 11 (tkE T) v' (l ++ news) → wpList Tryz.prog ops Q rest (a.put o.dst v') (ext W r)) : wpList Tryz.prog ops Q (o :: rest) a w := by
 obtain ⟨i0, hi, hz0, hz1, hz2⟩ := info_parts Tryz.info_tk
 exact own_append (Tryz.underlying90) hi hz0 hz1 hz2 rfl (by decide) (tkE_len T) (tkE_one T) hgd s x ho W hW hWb hbw hs hown ad m c hx news hm hnews (by unfold maxLen; omega) (by omega) h
set_option maxHeartbeats 1000000 in
theorem tk_clone (T : TypeId) (l : List RTk) (v : Value) (w : World) (hl : l.length ≤ 100000) (hv : Sl w 11 (tkE T) v l) :
 Calls Tryz.prog 101 #[v] w fun y w' => ∃ v', y = .returned v' ∧ (∃ r, w' = ext w r) ∧ Own w' w.heap.size 53 11 (tkE T) v' l := by
 have HV := hid hv
 obtain ⟨a, c, rfl, ⟨hm, hlc⟩, hr⟩ := hv
 have hnil := fun (w : World) (a : Option Addr) (n c : Nat) => Lib.run_eql_slice_nil (P := Tryz.prog) w 90 53 a n c 0 0 (Tryz.underlying90)
 cases a with
 | none =>
  have hl0 : l = [] := by
   cases l with
   | nil => rfl
   | cons x r => obtain ⟨b, o, h, _⟩ := hr (by simp); cases h
  clear hr HV
  go_enter Tryz.func101, Tryz.ntmps101
  go_wp2_with fail
  go_ret
  exact ⟨_, rfl, by exact exP, by rw [hl0]; exact Own.nil⟩
 | some ad =>
  have HF := hid (Sl.flat (tkE_len T) (by omega) HV.out)
  have hb : w.heap.size ≤ (w.alloc (.cells #[] 53)).heap.size := by simp
  clear hr HV
  go_enter Tryz.func101, Tryz.ntmps101
  go_wp2_with (at_builtin; refine tk_append rfl _ _ rfl w (by exact exP) (Nat.le_refl _) (by (first | exact Nat.le_refl _ | (simp; done) | (simp; omega))) rfl (Own.made #[] [] 0 rfl (Nat.le_refl _) (by unfold maxLen; omega) rfl rfl) ad l.length c rfl l rfl (fun j u hu => Ext.cell (Ext.of_alloc _ _) (HF.out j u hu)) (by simp; omega) ?_; rintro v' r' hv')
  go_ret
  exact ⟨_, rfl, by exact exP, hv'⟩
def setsAt : List Value → Nat → List Value → List Value
 | l, _, [] => l
 | l, k, u :: us => setsAt (l.set k u) (k + 1) us
theorem setsAt_left (us l r : List Value) (k : Nat) (h : k + us.length ≤ l.length) : setsAt (l ++ r) k us = setsAt l k us ++ r := by
 induction us generalizing l k with
 | nil => rfl
 | cons u us ih =>
  simp only [List.length_cons] at h
  simp only [setsAt]
  rw [List.set_append_left _ _ (by omega), ih _ _ (by rw [List.length_set]; omega)]
theorem setsAt_right (us l r : List Value) (k : Nat) : setsAt (l ++ r) (l.length + k) us = l ++ setsAt r k us := by
 induction us generalizing r k with
 | nil => rfl
 | cons u us ih =>
  simp only [setsAt]
  rw [List.set_append_right _ _ (by omega), show l.length + k - l.length = k by omega, show l.length + k + 1 = l.length + (k + 1) by omega, ih]
theorem setsAt_all (us pre l : List Value) (h : l.length = us.length) : setsAt (pre ++ l) pre.length us = pre ++ us := by
 induction us generalizing pre l with
 | nil => simp only [List.length_nil] at h; rw [List.length_eq_zero_iff.1 h]; rfl
 | cons u us ih =>
  cases l with
  | nil => simp at h
  | cons x l =>
   simp only [List.length_cons, Nat.add_right_cancel_iff] at h
   simp only [setsAt]
   rw [List.set_append_right _ _ (Nat.le_refl _), Nat.sub_self]
   have := ih (pre ++ [u]) l h
   rw [List.length_append] at this
   simpa using this
theorem flat_sets {α : Type} {enc : α → List Value} {size : Nat} (henc : ∀ x, (enc x).length = size) (l : List α) (i : Nat) (hi : i < l.length) (x' : α) : setsAt (l.flatMap enc) (i * size) (enc x') = (l.set i x').flatMap enc := by
 induction l generalizing i with
 | nil => simp at hi
 | cons y ys ih =>
  cases i with
  | zero =>
   simp only [List.flatMap_cons, List.set_cons_zero, Nat.zero_mul]
   rw [setsAt_left _ _ _ _ (by rw [henc, henc]; omega)]
   have := setsAt_all (enc x') [] (enc y) (by rw [henc, henc])
   simp only [List.nil_append, List.length_nil] at this
   rw [this]
  | succ i =>
   simp only [List.flatMap_cons, List.set_cons_succ]
   rw [show (i + 1) * size = (enc y).length + i * size by rw [henc, Nat.add_mul]; omega, setsAt_right, ih i (by simpa using hi)]
theorem Own.set11 {α : Type} {enc : α → List Value} {base : Nat} {e : TypeId} {l : List α} {w : World} (henc : ∀ x, (enc x).length = 11) {g n c : Nat} (h : Own w base e 11 enc (.slice (some ⟨g, 0, none⟩) n c) l) {i : Nat} (hi : i < l.length) (x' : α) {u0 u1 u2 u3 u4 u5 u6 u7 u8 u9 u10 : Value} (hx : enc x' = [u0, u1, u2, u3, u4, u5, u6, u7, u8, u9, u10]) :
 Own (((((((((((w.setCell ⟨g, i * 11, none⟩ u0).setCell ⟨g, i * 11 + 1, none⟩ u1).setCell ⟨g, i * 11 + 2, none⟩ u2).setCell ⟨g, i * 11 + 3, none⟩ u3).setCell ⟨g, i * 11 + 4, none⟩ u4).setCell ⟨g, i * 11 + 5, none⟩ u5).setCell ⟨g, i * 11 + 6, none⟩ u6).setCell ⟨g, i * 11 + 7, none⟩ u7).setCell ⟨g, i * 11 + 8, none⟩ u8).setCell ⟨g, i * 11 + 9, none⟩ u9).setCell ⟨g, i * 11 + 10, none⟩ u10) base e 11 enc (.slice (some ⟨g, 0, none⟩) n c) (l.set i x') := by
 obtain ⟨a, c', h'⟩ := Own.shape h
 simp only [Value.slice.injEq] at h'
 obtain ⟨_, rfl, _⟩ := h'
 have h0 : w.ownsRow base e 11 (.slice (some ⟨g, 0, none⟩) l.length c) l.length (l.flatMap enc) := h
 have h1 := (World.ownsRow.stored (World.ownsRow.stored (World.ownsRow.stored (World.ownsRow.stored (World.ownsRow.stored (World.ownsRow.stored (World.ownsRow.stored (World.ownsRow.stored (World.ownsRow.stored (World.ownsRow.stored (World.ownsRow.stored h0 (i * 11) u0).1 (i * 11 + 1) u1).1 (i * 11 + 2) u2).1 (i * 11 + 3) u3).1 (i * 11 + 4) u4).1 (i * 11 + 5) u5).1 (i * 11 + 6) u6).1 (i * 11 + 7) u7).1 (i * 11 + 8) u8).1 (i * 11 + 9) u9).1 (i * 11 + 10) u10).1
 have h2 := flat_sets henc l i hi x'
 rw [hx] at h2
 simp only [setsAt, Nat.add_assoc, Nat.reduceAdd] at h2
 rw [h2] at h1
 unfold Own
 simpa using h1
def tkNext (K : CodeK) (k : Tk K.C) (g : Gt) : Tk K.C := ⟨(K.nx k.c g).1, (K.nx k.c g).2.1, (K.nx k.c g).2.2, k.g ++ [g]⟩
theorem next_okK {K : CodeK} {w0 : World} {P : Nat → Prop} (hP : ∀ b, P b → b < w0.heap.size) {cv : Value} {c : K.C} (h : K.R w0 P cv c) {g : Gt} (hg : K.Gd g) : NextOk K.T K.F cv g w0 P (fun V cv' a d => K.R V (fun b => P b ∨ w0.heap.size ≤ b) cv' (K.nx c g).1 ∧ a = (K.nx c g).2.1 ∧ d = (K.nx c g).2.2) := by
 intro W hW
 refine (K.ok (fun b hb => Nat.lt_of_lt_of_le (hP b hb) hW.size) (K.st h (KpB.of_ext hW).agp) g hg).mono ?_
 rintro e w' ⟨v', rfl, he, hr⟩
 refine ⟨_, _, _, rfl, he, fun V hV => ⟨K.imp (K.st hr ⟨hV.1, fun b hb hl => hV.2 b hl ?_⟩) (fun b hb => hb.imp id (fun h => Nat.le_trans hW.size h)), rfl, rfl⟩⟩
 exact hb
def DoOk (w : World) (P : Nat → Prop) (M : Array Value) (q : Option Nat) (cr : Int) (fa : Option Addr) (pn vn fn fc ln sn : Nat) (t : Int) (a : A8) (ch : Int) (g : Gt) (m' : Mc) : Prop :=
 ∀ W, Ext w W → Calls Tryz.prog 100 #[.agg M, .int .i64 t, .agg (a8E a).toArray, .int .i64 ch] W fun e w' => ∃ pa' pc' va' vc' la' lc' sa' sc', e = .returned (.tuple #[.agg #[.slice pa' pn pc', .slice va' vn vc', .slice fa fn fc, .slice la' ln lc', .map q, .slice sa' sn sc', .int .i64 cr], .agg (gtE g).toArray, .int .i64 0]) ∧ (Ext W w' ∧ McR w' (fun b => P b ∨ W.heap.size ≤ b) (.slice pa' pn pc') (.slice va' vn vc') (.slice fa fn fc) (.slice la' ln lc') (.slice sa' sn sc') m')
theorem wstep_end (K : CodeK) {w V2 w3 V4 W w5 Y wx Z0 Z : World} {P : Nat → Prop} (hP : ∀ b, P b → b < w.heap.size) {pv vv fv lv sv tv bv pv' vv' fv' lv' sv' : Value} {m m' : Mc} {ts : List (Tk K.C)} {bs : List Bool} (h : WR K w P pv vv fv lv sv tv bv m ts bs)
 (hm : McR w3 (fun b => P b ∨ V2.heap.size ≤ b) pv' vv' fv' lv' sv' m') {gl b3 b6 b10 : Nat} (heY : Ext w Y) (he4 : Ext w3 V4) (hgW : GrL [b3] V4 W) (hx5 : Ext W w5) (hgY : GrL [b3] w5 Y) (hC : Ext Y wx) (hgz : GrL [gl] wx Z0) (hg6 : GrL [b6] Z0 Z)
 (hN : ((w.heap.size ≤ b3 ∧ b3 < b6) ∧ b6 < b10 ∧ b10 < gl) ∧ b6 < V2.heap.size ∧ w3.heap.size ≤ b10 ∧ w3.heap.size ≤ gl ∧ b10 < W.heap.size) (hglY : gl < Y.heap.size)
 {raw : List RTk} (hrl : raw.length = ts.length) (hr3 : ∀ (i : Nat) (r : RTk) (t : Tk K.C), raw[i]? = some r → ts[i]? = some t → TkR K w P r t) {i : Nat} {cv' : Value} {a' : A8} {d' : Bool} {q9 : Addr} {gk1 c1' n c : Nat} {T9 : TypeId}
 (hO : Own Z0 W.heap.size T9 11 (tkE K.T) (.slice (some ⟨gl, 0, none⟩) n c) (raw.set i (cv', (a', d'), (some q9, gk1, c1')))) (hwW : w.heap.size ≤ W.heap.size) (k : Tk K.C) (g : Gt) (hAD : a' = (K.nx k.c g).2.1 ∧ d' = (K.nx k.c g).2.2) (hq9 : Y.heap.size ≤ q9.block)
 (hR : ∀ X, Agr P Y.heap.size wx X → K.R X (fun b => P b ∨ w.heap.size ≤ b) cv' (K.nx k.c g).1 ∧ Sl X 4 gtE (.slice (some q9) gk1 c1') (k.g ++ [g])) :
 Ext w Z ∧ WR K Z (fun b => P b ∨ w.heap.size ≤ b) pv' vv' fv' lv' sv' (.slice (some ⟨gl, 0, none⟩) n c) bv m' (ts.set i (tkNext K k g)) bs := by
 have hEZ : Ext w Z := (((heY.trans hC).grl hgz (by simp; omega)).grl hg6 (by simp; omega))
 have hgx : GrL [gl, b6] wx Z := (hgz.wide (by simp)).trans (hg6.wide (by simp))
 have hg3 : GrL [b3, gl, b6] w3 Z := (((((GrL.of_ext he4).trans (hgW.wide (by simp))).trans (GrL.of_ext hx5)).trans (hgY.wide (by simp))).trans (GrL.of_ext hC)).trans (hgx.wide (by simp))
 have hYw := heY.size
 refine ⟨hEZ, ?_, ?_, (h.2.2.of blE_len hEZ).imp (fun b hb => .inl hb)⟩
 ·have h2 : V2.heap.size ≤ V2.heap.size := Nat.le_refl _
  refine (hm.bnd.kp (kp_end (V := V2) hP (by simp; omega) hg3)).imp (fun b hb => hb.1.imp id (fun h9 => ?_))
  omega
 ·obtain ⟨hR1, hR2⟩ := hR Z ⟨hgx.size, fun b hb hq => hgx.block hb (by
   simp only [List.mem_cons, List.not_mem_nil, or_false, not_or]
   rcases hq with hq | hq
   ·have := hP b hq; omega
   ·omega)⟩
  refine ⟨raw.set i (cv', (a', d'), (some q9, gk1, c1')), ?_, by rw [List.length_set, List.length_set]; exact hrl, ?_⟩
  ·exact Sp.own (tkE_len _) (hO.grl hg6 (by simp [Value.ownBlock]; omega)) (fun b hb => .inr (by omega))
  ·intro j r t e1 e2
   by_cases hj : i = j
   ·subst hj
    have hjl := (List.getElem?_eq_some_iff.1 e1).1
    rw [List.length_set] at hjl
    rw [List.getElem?_set_self hjl] at e1
    rw [List.getElem?_set_self (by omega)] at e2
    cases e1; cases e2
    exact ⟨by rw [hAD.1, hAD.2]; rfl, hR1, hR2, fun _ a n c he => by simp only [Value.slice.injEq, Option.some.injEq] at he; rw [← he.1]; exact .inr (by omega)⟩
   ·rw [List.getElem?_set_ne hj] at e1 e2
    exact ((hr3 j r t e1 e2).kp (KpB.of_ext hEZ)).imp (fun b hb => .inl hb)
set_option maxRecDepth 100000 in
set_option maxHeartbeats 1000000 in
theorem wstep_any {K : CodeK} {w : World} {P : Nat → Prop} (hP : ∀ b, P b → b < w.heap.size) {pa va fa la sa ta ba : Option Addr} {pn pc vn vc fn fc ln lc sn sc tn tc bn bc : Nat} (q : Option Nat) (cr : Int) {m : Mc} {ts : List (Tk K.C)} {bs : List Bool} (h : WR K w P (.slice pa pn pc) (.slice va vn vc) (.slice fa fn fc) (.slice la ln lc) (.slice sa sn sc) (.slice ta tn tc) (.slice ba bn bc) m ts bs) (htl : ts.length ≤ 1000)
 (t i : Nat) (hti : t = i + 1) (k : Tk K.C) (hk : ts[i]? = some k) (hkd : k.d = false) (hkg : k.g.length ≤ 10000) (ch : Int) (g : Gt) (hg : K.Gd g) (m' : Mc) (hdo : DoOk w P #[.slice pa pn pc, .slice va vn vc, .slice fa fn fc, .slice la ln lc, .map q, .slice sa sn sc, .int .i64 cr] q cr fa pn vn fn fc ln sn t k.a ch g m') :
 Calls Tryz.prog 81 #[.agg #[.slice pa pn pc, .slice va vn vc, .slice fa fn fc, .slice la ln lc, .map q, .slice sa sn sc, .int .i64 cr, .slice ta tn tc, .slice ba bn bc], .int .i64 t, .int .i64 ch] w fun e w' => ∃ pa' pc' va' vc' la' lc' sa' sc' ta' tc', e = .returned (.agg #[.slice pa' pn pc', .slice va' vn vc', .slice fa fn fc, .slice la' ln lc', .map q, .slice sa' sn sc', .int .i64 cr, .slice ta' tn tc', .slice ba bn bc]) ∧ (Ext w w' ∧ WR K w' (fun b => P b ∨ w.heap.size ≤ b) (.slice pa' pn pc') (.slice va' vn vc') (.slice fa fn fc) (.slice la' ln lc') (.slice sa' sn sc') (.slice ta' tn tc') (.slice ba bn bc) m' (ts.set i (tkNext K k g)) bs) := by
 have hn := h.2.1.len
 have hi := (List.getElem?_eq_some_iff.1 hk).1
 have H := hid h
 have HP := hid hP
 have HD := hid hdo
 have HG := hid hg
 have HTl := hid (And.intro hn (And.intro hi htl))
 have HK := hid (And.intro hk hkd)
 have HW1 := hid (show wrap64 ((t : Int) - 1) = (i : Int) by rw [show (t : Int) - 1 = (i : Int) by omega]; exact IntWalk.wrap64_in _ (by omega))
 have HTs := hid (show (i : Int) < (tn : Int) by omega)
 have HWR := hid (show IntKind.i64.wrap ((t : Int) - 1) = (i : Int) by rw [show (t : Int) - 1 = (i : Int) by omega]; exact IntWalk.i64_in _ (by omega))
 obtain ⟨raw, hr1, hr2, hr3⟩ := id h.2.1
 obtain ⟨r, hr⟩ : ∃ r, raw[i]? = some r := ⟨raw[i]'(by omega), List.getElem?_eq_getElem _⟩
 obtain ⟨hx_, b, o, hta, hb, hc⟩ := hr1.1.at hr
 cases hta
 obtain ⟨hrd, hrk, hrg⟩ := hr3 i r k hr hk
 obtain ⟨cv, ⟨a0, d⟩, ga, gn, gc⟩ := r
 dsimp only at hrd hrk hrg
 rw [hkd] at hrd
 cases hrd
 have hgl := hrg.lenN
 have hg0 := hrg.shape
 obtain ⟨a0, ha0⟩ : ∃ x, x = k.a := ⟨_, rfl⟩
 rw [← ha0] at HD hr hc
 obtain ⟨⟨g1, g2, g3⟩, g4⟩ := g
 obtain ⟨p1, p2, ⟨p3, p4, p5⟩, p6, p7, p8⟩ := a0
 have HRaw := hid (And.intro hr1 (And.intro hr2 (And.intro hr3 hr)))
 have HRk := hid hrk
 have HRg := hid (And.intro hrg (And.intro hgl (show gn ≤ 10000 by omega)))
 have HA0 := hid ha0
 simp only [tkE, nxV, Bool.false_eq_true, if_false] at hc
 have x0 := hc 0 (by omega)
 have x1 := hc 1 (by omega)
 have x2 := hc 2 (by omega)
 have x3 := hc 3 (by omega)
 have x4 := hc 4 (by omega)
 have x5 := hc 5 (by omega)
 have x6 := hc 6 (by omega)
 have x7 := hc 7 (by omega)
 have x8 := hc 8 (by omega)
 have x9 := hc 9 (by omega)
 have x10 := hc 10 (by omega)
 simp [tkL] at x0 x1 x2 x3 x4 x5 x6 x7 x8 x9 x10
 have hw1 := HW1.out
 have hts := HTs.out
 clear h hP hdo hg hn hi hk hkd hkg hti htl hr1 hr2 hr3 hr hx_ hc hrk hrg hgl hg0 ha0
 go_enter Tryz.func81, Tryz.ntmps81
 go_wp2_with fail
 generalize hV_ : World.alloc _ _ = V
 have HE_V := hid (show Ext w V by rw [← hV_]; exact exP)
 have HB_b3 := hid (show Blk V (w.heap.size) [.slice pa pn pc, .slice va vn vc, .slice fa fn fc, .slice la ln lc, .map q, .slice sa sn sc, .int .i64 cr, .slice (some ⟨b, o, none⟩) tn tc, .slice ba bn bc] by rw [← hV_]; exact bkP)
 have HB_b6 := hid (show Blk V (w.heap.size + 1) [.slice none 0 0, .slice none 0 0, .slice none 0 0, .slice none 0 0, .map none, .slice none 0 0, .int .i64 0, .slice none 0 0, .slice none 0 0] by rw [← hV_]; exact bkP)
 clear hV_
 obtain ⟨b6, hg_b6⟩ : ∃ g, g = w.heap.size + 1 := ⟨_, rfl⟩
 simp only [← hg_b6] at HB_b6 ⊢
 obtain ⟨b3, hg_b3⟩ : ∃ g, g = w.heap.size := ⟨_, rfl⟩
 simp only [← hg_b3] at HB_b3 ⊢
 have HN_V := hid (show b3 = w.heap.size ∧ b6 = w.heap.size + 1 ∧ b6 < V.heap.size from ⟨hg_b3, hg_b6, HB_b6.out.1⟩)
 clear hg_b3 hg_b6
 refine (tact_any (.iface K.T cv) (.func (.method "Next") #[.iface K.T cv] #[]) false (.inr ⟨rfl, _, _, _, rfl⟩) ⟨p1, p2, (p3, p4, p5), (p6, p7, p8)⟩ ga gn gc V).mono ?_
 rintro e V1 ⟨rfl, he⟩
 have HE_1 := hid (show Ext V V1 from he)
 have h3 := HB_b3.out.of he
 clear he x0 x1 x2 x3 x4 x5 x6 x7 x8 x9 x10
 have a0 := (h3).2.2 0 _ rfl
 have a1 := (h3).2.2 1 _ rfl
 have a2 := (h3).2.2 2 _ rfl
 have a3 := (h3).2.2 3 _ rfl
 have a4 := (h3).2.2 4 _ rfl
 have a5 := (h3).2.2 5 _ rfl
 have a6 := (h3).2.2 6 _ rfl
 have a7 := (h3).2.2 7 _ rfl
 have a8 := (h3).2.2 8 _ rfl
 have af := (h3).2.1
 have ag := (h3).1
 clear h3
 go_wp2_with fail
 generalize hV_ : World.alloc _ _ = V2
 have HE_V2 := hid (show Ext V1 V2 by rw [← hV_]; exact exP)
 have HB_b7 := hid (show Blk V2 (V1.heap.size) [.int .i64 p1, .int .i64 p2, .int .i64 p3, .int .u32 p4, .int .u32 p5, .int .i64 p6, .int .u32 p7, .int .u32 p8] by rw [← hV_]; exact bkP)
 clear hV_
 obtain ⟨b7, hg_b7⟩ : ∃ g, g = V1.heap.size := ⟨_, rfl⟩
 simp only [← hg_b7] at HB_b7 ⊢
 have HN_V2 := hid (show b7 = V1.heap.size ∧ b7 < V2.heap.size from ⟨hg_b7, HB_b7.out.1⟩)
 clear hg_b7
 have HE_2 := hid ((HE_V.out.trans HE_1.out).trans HE_V2.out)
 have hdo := HD.out V2 HE_2.out
 simp only [a8E, gtE] at hdo
 refine hdo.mono ?_
 rintro e w3 ⟨pa', pc', va', vc', la', lc', sa', sc', rfl, he, hm⟩
 have HX := hid he
 have HMc := hid hm
 have HE_3 := hid (HE_2.out.trans he)
 have h3 := HB_b3.out.of ((HE_1.out.trans HE_V2.out).trans he)
 have h6 := HB_b6.out.of ((HE_1.out.trans HE_V2.out).trans he)
 have HN := hid (show (w.heap.size ≤ b3 ∧ b3 < b6) ∧ b6 < V2.heap.size by have h1 := HN_V.out; have h3 := HE_1.out.size; have h4 := HE_V2.out.size; omega)
 clear hdo he hm a0 a1 a2 a3 a4 a5 a6 a7 a8 af ag HB_b3 HB_b6 HB_b7 HN_V HN_V2
 have HB_b3 := hid h3
 have HB_b6 := hid h6
 clear h3 h6
 have a0 := (HB_b3.out).2.2 0 _ rfl
 have a1 := (HB_b3.out).2.2 1 _ rfl
 have a2 := (HB_b3.out).2.2 2 _ rfl
 have a3 := (HB_b3.out).2.2 3 _ rfl
 have a4 := (HB_b3.out).2.2 4 _ rfl
 have a5 := (HB_b3.out).2.2 5 _ rfl
 have a6 := (HB_b3.out).2.2 6 _ rfl
 have a7 := (HB_b3.out).2.2 7 _ rfl
 have a8 := (HB_b3.out).2.2 8 _ rfl
 have af := (HB_b3.out).2.1
 have ag := (HB_b3.out).1
 go_upto_region 5 with fail
 generalize hV_ : World.alloc _ _ = V4
 have HE_V4 := hid (show Ext w3 V4 by rw [← hV_]; exact exP)
 have HB_b9 := hid (show Blk V4 (w3.heap.size) [.slice pa' pn pc', .slice va' vn vc', .slice fa fn fc, .slice la' ln lc', .map q, .slice sa' sn sc', .int .i64 cr] by rw [← hV_]; exact bkP)
 have HB_b10 := hid (show Blk V4 (w3.heap.size + 1) [.int .i64 g1, .int .u32 g2, .int .u32 g3, .bool g4] by rw [← hV_]; exact bkP)
 clear hV_
 obtain ⟨b10, hg_b10⟩ : ∃ g, g = w3.heap.size + 1 := ⟨_, rfl⟩
 simp only [← hg_b10] at HB_b10 ⊢
 obtain ⟨b9, hg_b9⟩ : ∃ g, g = w3.heap.size := ⟨_, rfl⟩
 simp only [← hg_b9] at HB_b9 ⊢
 have HN_V4 := hid (show b9 = w3.heap.size ∧ b10 = w3.heap.size + 1 ∧ b10 < V4.heap.size from ⟨hg_b9, hg_b10, HB_b10.out.1⟩)
 clear hg_b9 hg_b10
 have h3 := HB_b3.out.of HE_V4.out
 have h6 := HB_b6.out.of HE_V4.out
 have HN4 := hid (show (w.heap.size ≤ b3 ∧ b3 < b6) ∧ w3.heap.size ≤ b9 ∧ b6 < b9 ∧ b9 < b10 ∧ b6 < V2.heap.size ∧ b10 < V4.heap.size by have h1 := HN_V4.out; have h2 := HN.out; have h3 := HX.out.size; omega)
 clear a0 a1 a2 a3 a4 a5 a6 a7 a8 af ag HB_b3 HB_b6 HN_V4
 have HB_b3 := hid h3
 have HB_b6 := hid h6
 clear h3 h6
 have a0 := (HB_b3.out).2.2 0 _ rfl
 have a1 := (HB_b3.out).2.2 1 _ rfl
 have a2 := (HB_b3.out).2.2 2 _ rfl
 have a3 := (HB_b3.out).2.2 3 _ rfl
 have a4 := (HB_b3.out).2.2 4 _ rfl
 have a5 := (HB_b3.out).2.2 5 _ rfl
 have a6 := (HB_b3.out).2.2 6 _ rfl
 have a7 := (HB_b3.out).2.2 7 _ rfl
 have a8 := (HB_b3.out).2.2 8 _ rfl
 have af := (HB_b3.out).2.1
 have ag := (HB_b3.out).1
 have d0 := (HB_b9.out).2.2 0 _ rfl
 have d1 := (HB_b9.out).2.2 1 _ rfl
 have d2 := (HB_b9.out).2.2 2 _ rfl
 have d3 := (HB_b9.out).2.2 3 _ rfl
 have d4 := (HB_b9.out).2.2 4 _ rfl
 have d5 := (HB_b9.out).2.2 5 _ rfl
 have d6 := (HB_b9.out).2.2 6 _ rfl
 have df := (HB_b9.out).2.1
 have dg := (HB_b9.out).1
 have d_b3_b6 : ¬ b3 = b6 := by have hn_ := HN4.out; omega
 have d_b3_b9 : ¬ b3 = b9 := by have hn_ := HN4.out; omega
 have d_b3_b10 : ¬ b3 = b10 := by have hn_ := HN4.out; omega
 have d_b6_b3 : ¬ b6 = b3 := by have hn_ := HN4.out; omega
 have d_b6_b9 : ¬ b6 = b9 := by have hn_ := HN4.out; omega
 have d_b6_b10 : ¬ b6 = b10 := by have hn_ := HN4.out; omega
 have d_b9_b3 : ¬ b9 = b3 := by have hn_ := HN4.out; omega
 have d_b9_b6 : ¬ b9 = b6 := by have hn_ := HN4.out; omega
 have d_b9_b10 : ¬ b9 = b10 := by have hn_ := HN4.out; omega
 have d_b10_b3 : ¬ b10 = b3 := by have hn_ := HN4.out; omega
 have d_b10_b6 : ¬ b10 = b6 := by have hn_ := HN4.out; omega
 have d_b10_b9 : ¬ b10 = b9 := by have hn_ := HN4.out; omega
 go_wp2_with fail
 have hn_ := HN4.out
 have h_b3 := HB_b3.out
 generalize hV_ : World.setCell _ _ _ = W
 have HG_W := hid (show GrL [b3] V4 W by rw [← hV_]; exact glP)
 have hz_b3 := hid (show Blk W b3 [.slice pa' pn pc', .slice va' vn vc', .slice fa fn fc, .slice la' ln lc', .map q, .slice sa' sn sc', .int .i64 cr, .slice (some ⟨b, o, none⟩) tn tc, .slice ba bn bc] by rw [← hV_]; exact bcP)
 clear hV_ h_b3
 have hz_b6 := hid (Blk.grl HB_b6.out HG_W.out (by simp; omega))
 have hz_b10 := hid (Blk.grl HB_b10.out HG_W.out (by simp; omega))
 clear HB_b3
 have HB_b3 := hz_b3
 clear hz_b3
 clear HB_b6
 have HB_b6 := hz_b6
 clear hz_b6
 clear HB_b10
 have HB_b10 := hz_b10
 clear hz_b10
 clear hn_
 clear a0 a1 a2 a3 a4 a5 a6 a7 a8 af ag d0 d1 d2 d3 d4 d5 d6 df dg HB_b9
 have HE_W := hid ((HE_3.out.trans HE_V4.out).grl HG_W.out (by have := HN4.out; simp; omega))
 refine (tk_clone K.T raw (.slice (some ⟨b, o, none⟩) tn tc) W (by have h1 := HRaw.out.2.1; have h2 := HTl.out; omega) (HRaw.out.1.1.of (tkE_len _) HE_W.out)).mono ?_
 rintro e w5 ⟨v', rfl, he, hv⟩
 have HX5 := hid (show Ext W w5 from he)
 have HRl := hid (show raw.length = tn by have h1 := HRaw.out.2.1; have h2 := HTl.out; omega)
 have hop := Own.openT hv (by have h1 := HRl.out; have h2 := HTl.out; omega)
 rw [HRl.out] at hop
 obtain ⟨gl, tc', rfl, hb1, hb2⟩ := hop
 have HO := hid hv
 have HGl := hid (And.intro hb1 hb2)
 have h3 := HB_b3.out.of HX5.out
 have HN5 := hid (show ((w.heap.size ≤ b3 ∧ b3 < b6) ∧ b6 < b10 ∧ b10 < gl) ∧ b6 < V2.heap.size ∧ w3.heap.size ≤ b10 ∧ w3.heap.size ≤ gl ∧ b10 < W.heap.size by have h2 := HN4.out; have h3 := HG_W.out.size; have h4 := HB_b10.out.1; have h5 := HE_V4.out.size; omega)
 clear he hv hb1 hb2 hb
 have a0 := (h3).2.2 0 _ rfl
 have a1 := (h3).2.2 1 _ rfl
 have a2 := (h3).2.2 2 _ rfl
 have a3 := (h3).2.2 3 _ rfl
 have a4 := (h3).2.2 4 _ rfl
 have a5 := (h3).2.2 5 _ rfl
 have a6 := (h3).2.2 6 _ rfl
 have a7 := (h3).2.2 7 _ rfl
 have a8 := (h3).2.2 8 _ rfl
 have af := (h3).2.1
 have ag := (h3).1
 clear h3
 go_upto_region 7 with fail
 have hn_ := HN5.out
 have h_b3 := (HB_b3.out.of HX5.out)
 generalize hV_ : World.setCell _ _ _ = Y
 have HG_Y := hid (show GrL [b3] w5 Y by rw [← hV_]; exact glP)
 have hz_b3 := hid (show Blk Y b3 [.slice pa' pn pc', .slice va' vn vc', .slice fa fn fc, .slice la' ln lc', .map q, .slice sa' sn sc', .int .i64 cr, .slice (some ⟨gl, 0, none⟩) tn tc', .slice ba bn bc] by rw [← hV_]; exact bcP)
 have HOY := hid (show Own Y W.heap.size 53 11 (tkE K.T) (.slice (some ⟨gl, 0, none⟩) tn tc') raw by rw [← hV_]; exact HO.out.under (by have := HN5.out; omega) _)
 clear hV_ h_b3
 have hz_b6 := hid (Blk.grl (HB_b6.out.of HX5.out) HG_Y.out (by simp; omega))
 have hz_b10 := hid (Blk.grl (HB_b10.out.of HX5.out) HG_Y.out (by simp; omega))
 clear HB_b3
 have HB_b3 := hz_b3
 clear hz_b3
 clear HB_b6
 have HB_b6 := hz_b6
 clear hz_b6
 clear HB_b10
 have HB_b10 := hz_b10
 clear hz_b10
 clear hn_
 clear a0 a1 a2 a3 a4 a5 a6 a7 a8 af ag
 have HE_Y := hid ((HE_W.out.trans HX5.out).grl HG_Y.out (by have := HN5.out; simp; omega))
 obtain ⟨hx_, b', o', he', hb, hc⟩ := (Sl.of_own (tkE_len _) HOY.out).at HRaw.out.2.2.2
 obtain ⟨rfl, rfl⟩ : gl = b' ∧ 0 = o' := by simpa using he'
 have kg := hb
 have HKf := hid (show ∀ i, Y.frozen? ⟨gl, i, none⟩ = false by
  obtain ⟨_, cs, h⟩ := own_typed HOY.out rfl
  exact (blk_heap h).2.1)
 simp only [tkE, nxV, Bool.false_eq_true, if_false] at hc
 have x0 := hc 0 (by omega)
 have x1 := hc 1 (by omega)
 have x2 := hc 2 (by omega)
 have x3 := hc 3 (by omega)
 have x4 := hc 4 (by omega)
 have x5 := hc 5 (by omega)
 have x6 := hc 6 (by omega)
 have x7 := hc 7 (by omega)
 have x8 := hc 8 (by omega)
 have x9 := hc 9 (by omega)
 have x10 := hc 10 (by omega)
 simp [tkL] at x0 x1 x2 x3 x4 x5 x6 x7 x8 x9 x10
 clear hx_ he' hb hc
 have a0 := (HB_b3.out).2.2 0 _ rfl
 have a1 := (HB_b3.out).2.2 1 _ rfl
 have a2 := (HB_b3.out).2.2 2 _ rfl
 have a3 := (HB_b3.out).2.2 3 _ rfl
 have a4 := (HB_b3.out).2.2 4 _ rfl
 have a5 := (HB_b3.out).2.2 5 _ rfl
 have a6 := (HB_b3.out).2.2 6 _ rfl
 have a7 := (HB_b3.out).2.2 7 _ rfl
 have a8 := (HB_b3.out).2.2 8 _ rfl
 have af := (HB_b3.out).2.1
 have ag := (HB_b3.out).1
 have c0 := (HB_b10.out).2.2 0 _ rfl
 have c1 := (HB_b10.out).2.2 1 _ rfl
 have c2 := (HB_b10.out).2.2 2 _ rfl
 have c3 := (HB_b10.out).2.2 3 _ rfl
 have cf := (HB_b10.out).2.1
 have cg := (HB_b10.out).1
 have hw1 := HW1.out
 have hts := HTs.out
 have hwr := HWR.out
 obtain ⟨k1, hk1⟩ : ∃ x, x = k.g.length := ⟨_, rfl⟩
 have HK1 := hid hk1
 have hgk : gn = k1 := by rw [hk1]; exact HRg.out.2.1
 subst hgk
 obtain ⟨gk1, hgk1⟩ : ∃ x, x = gn + 1 := ⟨_, rfl⟩
 have HGk := hid hgk1
 obtain ⟨a', ha'⟩ : ∃ x, x = (K.nx k.c ((g1, g2, g3), g4)).2.1 := ⟨_, rfl⟩
 obtain ⟨d', hd'⟩ : ∃ x, x = (K.nx k.c ((g1, g2, g3), g4)).2.2 := ⟨_, rfl⟩
 have HAD := hid (And.intro ha' hd')
 obtain ⟨cn, hcn⟩ : ∃ x, x = (K.nx k.c ((g1, g2, g3), g4)).1 := ⟨_, rfl⟩
 have HCN := hid hcn
 clear hk1 hgk1 ha' hd' hcn
 have HGv := hid (fun (X : World) (hX : Ext Y X) => tgive_any K.hT cv ⟨p1, p2, (p3, p4, p5), (p6, p7, p8)⟩ ga gc k.g g1 g2 g3 g4 w X (HE_Y.out.trans hX) (by have := HRg.out.1.1; rw [HK1.out] at this; exact this) (fun h => by obtain ⟨a9, c9, e9, _, h9⟩ := HRg.out.1.shape; simp only [Value.slice.injEq] at e9; exact List.length_eq_zero_iff.1 (h9 (e9.1.symm.trans h))) (by have := HRg.out.2.2; have := HK1.out; omega) HP.out (next_okK HP.out HRk.out HG.out))
 rw [← HK1.out] at HGv
 have HL_ := hid (fun w' (h : Ext Y w') => (And.intro (Nat.lt_of_lt_of_le ag h.size) (And.intro (Nat.lt_of_lt_of_le kg h.size) (And.intro (Nat.lt_of_lt_of_le cg h.size) (And.intro (h.cell a7) (And.intro (h.cell x0) (And.intro (h.cell x1) (And.intro (h.cell x2) (And.intro (h.cell x3) (And.intro (h.cell x4) (And.intro (h.cell x5) (And.intro (h.cell x6) (And.intro (h.cell x7) (And.intro (h.cell x8) (And.intro (h.cell x9) (And.intro (h.cell x10) (And.intro (h.cell c0) (And.intro (h.cell c1) (And.intro (h.cell c2) (h.cell c3))))))))))))))))))))
 refine wp_region_facts [41, 42, 43, 44, 45, 46, 47, 48, 49, 50, 51, 52, 53] [0, 1, 2, 3, 4, 5, 6, 7, 8, 9, 10, 11, 12] rfl (fun w' => Ext Y w') (fsAt [IsV ?_, IsV ?_, IsV ?_, IsV ?_, IsV ?_, IsV ?_, IsV ?_, IsV ?_, IsV ?_, IsV ?_, IsV ?_, (fun v w' => ∃ cv' q c1, v = .agg (tkL (.iface K.T cv') (nxV K.T cv' d') (if d' = true then a8Z else a') (some q) gk1 c1).toArray ∧ Y.heap.size ≤ q.block ∧ ∀ X, Agr P Y.heap.size w' X → K.R X (fun b => P b ∨ w.heap.size ≤ b) cv' cn ∧ Sl X 4 gtE (.slice (some q) gk1 c1) (k.g ++ [((g1, g2, g3), g4)])), IsV ?_]) (by kernel_rfl) (by kernel_rfl) ((Ext.refl _).drew) (fun w w' h he => h.trans he) (aC (fun _ _ _ h _ => h) (aC (fun _ _ _ h _ => h) (aC (fun _ _ _ h _ => h) (aC (fun _ _ _ h _ => h) (aC (fun _ _ _ h _ => h) (aC (fun _ _ _ h _ => h) (aC (fun _ _ _ h _ => h) (aC (fun _ _ _ h _ => h) (aC (fun _ _ _ h _ => h) (aC (fun _ _ _ h _ => h) (aC (fun _ _ _ h _ => h) (aC (fun _ _ _ h he => by obtain ⟨cv', q, c1, h1, h2, h3⟩ := h; exact ⟨cv', q, c1, h1, h2, fun X hX => h3 X (Agr.ext he hX)⟩) (aC (fun _ _ _ h _ => h) (AllOn.nil)))))))))))))) (aC ?_ (aC ?_ (aC ?_ (aC ?_ (aC ?_ (aC ?_ (aC ?_ (aC ?_ (aC ?_ (aC ?_ (aC ?_ (aC ?_ (aC ?_ (AllOn.nil)))))))))))))) ?_
 rotate_left 12
 ·intro A w cx hO hD
  have e3 := evO hO 3 rfl
  clear hD hO
  refine hdV rfl ?_ rfl rfl ?_ ?_
  rotate_left 1
  ·simp [go_sem, e3, cx, HL_.out w cx, hwr, hts]
   try with_reducible rfl
  ·exact IsV.mk (w := w)
 ·intro A w cx hO hD
  have e41 := evD (hD 0 (by kernel_rfl) 41 rfl)
  clear hD hO
  refine hdV rfl ?_ rfl rfl ?_ ?_
  rotate_left 1
  ·simp [go_sem, e41, cx, HL_.out w cx, hwr, hts]
   try with_reducible rfl
  ·exact IsV.mk (w := w)
 ·intro A w cx hO hD
  have e1 := evO hO 1 rfl
  clear hD hO
  refine hdV rfl ?_ rfl rfl ?_ ?_
  rotate_left 1
  ·simp [go_sem, e1, cx, HL_.out w cx, hwr, hts]
   try with_reducible rfl
  ·exact IsV.mk (w := w)
 ·intro A w cx hO hD
  have e43 := evD (hD 2 (by kernel_rfl) 43 rfl)
  clear hD hO
  refine hdV rfl ?_ rfl rfl ?_ ?_
  rotate_left 1
  ·simp [go_sem, e43, cx, HL_.out w cx, hwr, hts]
   try with_reducible rfl
  ·exact IsV.mk (w := w)
 ·intro A w cx hO hD
  have e3 := evO hO 3 rfl
  clear hD hO
  refine hdV rfl ?_ rfl rfl ?_ ?_
  rotate_left 1
  ·simp [go_sem, e3, cx, HL_.out w cx, hwr, hts]
   try with_reducible rfl
  ·exact IsV.mk (w := w)
 ·intro A w cx hO hD
  have e45 := evD (hD 4 (by kernel_rfl) 45 rfl)
  clear hD hO
  refine hdV rfl ?_ rfl rfl ?_ ?_
  rotate_left 1
  ·simp [go_sem, e45, cx, HL_.out w cx, hwr, hts]
   try with_reducible rfl
  ·exact IsV.mk (w := w)
 ·intro A w cx hO hD
  have e1 := evO hO 1 rfl
  clear hD hO
  refine hdV rfl ?_ rfl rfl ?_ ?_
  rotate_left 1
  ·simp [go_sem, e1, cx, HL_.out w cx, hwr, hts]
   try with_reducible rfl
  ·exact IsV.mk (w := w)
 ·intro A w cx hO hD
  have e47 := evD (hD 6 (by kernel_rfl) 47 rfl)
  clear hD hO
  refine hdV rfl ?_ rfl rfl ?_ ?_
  rotate_left 1
  ·simp [go_sem, e47, cx, HL_.out w cx, hwr, hts]
   try with_reducible rfl
  ·exact IsV.mk (w := w)
 ·intro A w cx hO hD
  have e46 := evD (hD 5 (by kernel_rfl) 46 rfl)
  have e48 := evD (hD 7 (by kernel_rfl) 48 rfl)
  clear hD hO
  refine hdV rfl ?_ rfl rfl ?_ ?_
  rotate_left 1
  ·simp [go_sem, e46, e48, cx, HL_.out w cx, hwr, hts]
   try with_reducible rfl
  ·exact IsV.mk (w := w)
 ·intro A w cx hO hD
  have e49 := evD (hD 8 (by kernel_rfl) 49 rfl)
  clear hD hO
  refine hdV rfl ?_ rfl rfl ?_ ?_
  rotate_left 1
  ·simp [go_sem, e49, cx, HL_.out w cx, hwr, hts]
   try with_reducible rfl
  ·exact IsV.mk (w := w)
 ·intro A w cx hO hD
  have e10 := evO hO 10 rfl
  clear hD hO
  refine hdV rfl ?_ rfl rfl ?_ ?_
  rotate_left 1
  ·simp [go_sem, e10, cx, HL_.out w cx, hwr, hts]
   try with_reducible rfl
  ·exact IsV.mk (w := w)
 ·intro A w cx hO hD
  have e50 := evD (hD 9 (by kernel_rfl) 50 rfl)
  have e51 := evD (hD 10 (by kernel_rfl) 51 rfl)
  clear hD hO
  refine hdW rfl rfl ?_
  simp [go_sem, e50, e51]
  refine (HGv.out _ cx).mono ?_
  rintro e w' ⟨cv', a1, d1, q9, c1, rfl, he, hq, hR⟩
  obtain ⟨⟨_, hra, hrd⟩, _⟩ := hR w' (Agr.refl _ _ _)
  rw [← HAD.out.1] at hra
  rw [← HAD.out.2] at hrd
  cases hra; cases hrd
  refine ⟨_, rfl, he, cv', q9, c1, by rw [HGk.out, HK1.out], Nat.le_trans cx.size hq, fun X hX => ?_⟩
  obtain ⟨⟨h1, _⟩, h2⟩ := hR X (hX.wide (fun _ h => h) cx.size)
  rw [HCN.out, HGk.out, HK1.out]
  exact ⟨h1, h2⟩
 ·intro A w cx hO hD
  have e42 := evD (hD 1 (by kernel_rfl) 42 rfl)
  have e44 := evD (hD 3 (by kernel_rfl) 44 rfl)
  clear hD hO
  refine hdV rfl ?_ rfl rfl ?_ ?_
  rotate_left 1
  ·simp [go_sem, e42, e44, cx, HL_.out w cx, hwr, hts]
   try with_reducible rfl
  ·exact IsV.mk (w := w)
 intro u wx hC hF
 obtain ⟨f0, f1, f2, f3, f4, f5, f6, f7, f8, f9, f10, f11, f12, _⟩ := hF
 have g0 : u 0 = _ := f0
 have g1 : u 1 = _ := f1
 have g2 : u 2 = _ := f2
 have g3 : u 3 = _ := f3
 have g4 : u 4 = _ := f4
 have g5 : u 5 = _ := f5
 have g6 : u 6 = _ := f6
 have g7 : u 7 = _ := f7
 have g8 : u 8 = _ := f8
 have g9 : u 9 = _ := f9
 have g10 : u 10 = _ := f10
 obtain ⟨v11, g11⟩ : ∃ v, u 11 = v := ⟨_, rfl⟩
 rw [g11] at f11
 have g12 : u 12 = _ := f12
 simp only [fPut, Nat.zero_add, Nat.reduceAdd, g0, g1, g2, g3, g4, g5, g6, g7, g8, g9, g10, g11, g12, Act.put, List.setIfInBounds_toArray, List.set_cons_zero, List.set_cons_succ, List.length_cons, List.length_nil, List.drop_succ_cons, List.drop_zero]
 clear g0 g1 g2 g3 g4 g5 g6 g7 g8 g9 g10 g11 g12 f0 f1 f2 f3 f4 f5 f6 f7 f8 f9 f10 f12
 obtain ⟨cv', q9, c1', hv9, hq9, hR9⟩ := f11
 have HR9 := hid (And.intro hq9 hR9)
 have HC := hid hC
 have hkf : ∀ i, wx.frozen? ⟨gl, i, none⟩ = false := by obtain ⟨_, cs, h⟩ := own_typed (HOY.out.of_ext hC) rfl; exact (blk_heap h).2.1
 have hwg : gl < wx.heap.size := Nat.lt_of_lt_of_le kg hC.size
 have y0 := hC.cell x0
 have y1 := hC.cell x1
 have y2 := hC.cell x2
 have y3 := hC.cell x3
 have y4 := hC.cell x4
 have y5 := hC.cell x5
 have y6 := hC.cell x6
 have y7 := hC.cell x7
 have y8 := hC.cell x8
 have y9 := hC.cell x9
 have y10 := hC.cell x10
 clear hC x0 x1 x2 x3 x4 x5 x6 x7 x8 x9 x10 a0 a1 a2 a3 a4 a5 a6 a7 a8 af ag c0 c1 c2 c3 cf cg kg hq9 hR9 hw1 hwr hts
 obtain ⟨z1, z2, ⟨z3, z4, z5⟩, z6, z7, z8⟩ := a'
 cases d'
 ·simp only [nxV, Bool.false_eq_true, if_false, if_true, tkL, a8Z] at hv9
  subst hv9
  go_upto_region 8 with fail
  generalize hV_ : World.setCell _ _ _ = Z0
  have HGz := hid (show GrL [gl] wx Z0 by rw [← hV_]; exact glP)
  have HOz := hid (show Own Z0 W.heap.size 53 11 (tkE K.T) (.slice (some ⟨gl, 0, none⟩) tn tc') (raw.set i (cv', (⟨z1, z2, (z3, z4, z5), (z6, z7, z8)⟩, false), (some q9, gk1, c1'))) by rw [← hV_]; exact Own.set11 (tkE_len _) (HOY.out.of_ext HC.out) (by have h1 := HRaw.out.2.1; have h2 := HTl.out; omega) _ rfl)
  clear hV_ y0 y1 y2 y3 y4 y5 y6 y7 y8 y9 y10 hkf hwg
  have h3 := (HB_b3.out.of HC.out).grl HGz.out (by have := HN5.out; simp; omega)
  have h6 := (HB_b6.out.of HC.out).grl HGz.out (by have := HN5.out; simp; omega)
  have HGl2 := hid (show gl < Y.heap.size from by have h1 := HGl.out; have h2 := HG_Y.out.size; omega)
  have a0 := (h3).2.2 0 _ rfl
  have a1 := (h3).2.2 1 _ rfl
  have a2 := (h3).2.2 2 _ rfl
  have a3 := (h3).2.2 3 _ rfl
  have a4 := (h3).2.2 4 _ rfl
  have a5 := (h3).2.2 5 _ rfl
  have a6 := (h3).2.2 6 _ rfl
  have a7 := (h3).2.2 7 _ rfl
  have a8 := (h3).2.2 8 _ rfl
  have af := (h3).2.1
  have ag := (h3).1
  have c0 := (h6).2.2 0 _ rfl
  have c1 := (h6).2.2 1 _ rfl
  have c2 := (h6).2.2 2 _ rfl
  have c3 := (h6).2.2 3 _ rfl
  have c4 := (h6).2.2 4 _ rfl
  have c5 := (h6).2.2 5 _ rfl
  have c6 := (h6).2.2 6 _ rfl
  have c7 := (h6).2.2 7 _ rfl
  have c8 := (h6).2.2 8 _ rfl
  have cf := (h6).2.1
  have cg := (h6).1
  clear h3 h6
  (repeat (first | go_values | go_skip | go_guarded | go_step | go_upon | (simp only [Int.not_lt, Int.not_le] at *; go_simp) | (go_ite <;> go_prune <;> (try go_simp))))
  refine bodyPost_ret (v := .agg #[.slice pa' pn pc', .slice va' vn vc', .slice fa fn fc, .slice la' ln lc', .map q, .slice sa' sn sc', .int .i64 cr, .slice (some ⟨gl, 0, none⟩) tn tc', .slice ba bn bc]) (by simp [results, Tryz.results81, go_sem, c0, c1, c2, c3, c4, c5, c6, c7, c8, cf, cg]) rfl ⟨pa', pc', va', vc', la', lc', sa', sc', _, _, rfl, ?_⟩
  generalize hZ_ : World.setCell _ _ _ = Z
  have hgz : GrL [b6] Z0 Z := by rw [← hZ_]; exact glP
  clear hZ_ a0 a1 a2 a3 a4 a5 a6 a7 a8 af ag c0 c1 c2 c3 c4 c5 c6 c7 c8 cf cg
  exact wstep_end K HP.out H.out HMc.out (gl := gl) (b3 := b3) (b6 := b6) HE_Y.out HE_V4.out HG_W.out HX5.out HG_Y.out HC.out HGz.out hgz HN5.out HGl2.out HRaw.out.2.1 HRaw.out.2.2.1 HOz.out (by have h1 := HE_W.out.size; omega) k ((g1, g2, g3), g4) HAD.out HR9.out.1 (by rw [← HCN.out]; exact HR9.out.2)
 ·simp only [nxV, Bool.false_eq_true, if_false, if_true, tkL, a8Z] at hv9
  subst hv9
  go_upto_region 8 with fail
  generalize hV_ : World.setCell _ _ _ = Z0
  have HGz := hid (show GrL [gl] wx Z0 by rw [← hV_]; exact glP)
  have HOz := hid (show Own Z0 W.heap.size 53 11 (tkE K.T) (.slice (some ⟨gl, 0, none⟩) tn tc') (raw.set i (cv', (⟨z1, z2, (z3, z4, z5), (z6, z7, z8)⟩, true), (some q9, gk1, c1'))) by rw [← hV_]; exact Own.set11 (tkE_len _) (HOY.out.of_ext HC.out) (by have h1 := HRaw.out.2.1; have h2 := HTl.out; omega) _ rfl)
  clear hV_ y0 y1 y2 y3 y4 y5 y6 y7 y8 y9 y10 hkf hwg
  have h3 := (HB_b3.out.of HC.out).grl HGz.out (by have := HN5.out; simp; omega)
  have h6 := (HB_b6.out.of HC.out).grl HGz.out (by have := HN5.out; simp; omega)
  have HGl2 := hid (show gl < Y.heap.size from by have h1 := HGl.out; have h2 := HG_Y.out.size; omega)
  have a0 := (h3).2.2 0 _ rfl
  have a1 := (h3).2.2 1 _ rfl
  have a2 := (h3).2.2 2 _ rfl
  have a3 := (h3).2.2 3 _ rfl
  have a4 := (h3).2.2 4 _ rfl
  have a5 := (h3).2.2 5 _ rfl
  have a6 := (h3).2.2 6 _ rfl
  have a7 := (h3).2.2 7 _ rfl
  have a8 := (h3).2.2 8 _ rfl
  have af := (h3).2.1
  have ag := (h3).1
  have c0 := (h6).2.2 0 _ rfl
  have c1 := (h6).2.2 1 _ rfl
  have c2 := (h6).2.2 2 _ rfl
  have c3 := (h6).2.2 3 _ rfl
  have c4 := (h6).2.2 4 _ rfl
  have c5 := (h6).2.2 5 _ rfl
  have c6 := (h6).2.2 6 _ rfl
  have c7 := (h6).2.2 7 _ rfl
  have c8 := (h6).2.2 8 _ rfl
  have cf := (h6).2.1
  have cg := (h6).1
  clear h3 h6
  (repeat (first | go_values | go_skip | go_guarded | go_step | go_upon | (simp only [Int.not_lt, Int.not_le] at *; go_simp) | (go_ite <;> go_prune <;> (try go_simp))))
  refine bodyPost_ret (v := .agg #[.slice pa' pn pc', .slice va' vn vc', .slice fa fn fc, .slice la' ln lc', .map q, .slice sa' sn sc', .int .i64 cr, .slice (some ⟨gl, 0, none⟩) tn tc', .slice ba bn bc]) (by simp [results, Tryz.results81, go_sem, c0, c1, c2, c3, c4, c5, c6, c7, c8, cf, cg]) rfl ⟨pa', pc', va', vc', la', lc', sa', sc', _, _, rfl, ?_⟩
  generalize hZ_ : World.setCell _ _ _ = Z
  have hgz : GrL [b6] Z0 Z := by rw [← hZ_]; exact glP
  clear hZ_ a0 a1 a2 a3 a4 a5 a6 a7 a8 af ag c0 c1 c2 c3 c4 c5 c6 c7 c8 cf cg
  exact wstep_end K HP.out H.out HMc.out (gl := gl) (b3 := b3) (b6 := b6) HE_Y.out HE_V4.out HG_W.out HX5.out HG_Y.out HC.out HGz.out hgz HN5.out HGl2.out HRaw.out.2.1 HRaw.out.2.2.1 HOz.out (by have h1 := HE_W.out.size; omega) k ((g1, g2, g3), g4) HAD.out HR9.out.1 (by rw [← HCN.out]; exact HR9.out.2)
end Go.Proofs.YtiacdohaiidehaaGreatDoor
