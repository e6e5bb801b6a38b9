/- The world of tasks: Step, over any code. -/
import Derived.Test.YtiacdohaiidehaaGreatDoorPk17
namespace Go.Proofs.YtiacdohaiidehaaGreatDoor
set_option linter.unusedSimpArgs false
set_option linter.unusedVariables false
open Go.RowKit Go.Maps
def WV (K : CodeK) (w : World) (P : Nat → Prop) (q : Option Nat) (cr : Int) (v : Value) (m : Mc) (ts : List (Tk K.C)) (bs : List Bool) : Prop :=
 ∃ (pa va fa la sa ta ba : Option Addr) (pn pc vn vc fn fc ln lc sn sc tn tc bn bc : Nat), v = .agg #[.slice pa pn pc, .slice va vn vc, .slice fa fn fc, .slice la ln lc, .map q, .slice sa sn sc, .int .i64 cr, .slice ta tn tc, .slice ba bn bc] ∧ WR K w P (.slice pa pn pc) (.slice va vn vc) (.slice fa fn fc) (.slice la ln lc) (.slice sa sn sc) (.slice ta tn tc) (.slice ba bn bc) m ts bs
section
variable {K : CodeK} {w w' : World} {P : Nat → Prop} {q : Option Nat} {cr : Int} {v : Value} {m : Mc} {ts : List (Tk K.C)} {bs : List Bool}
theorem WV.kp (h : WV K w P q cr v m ts bs) (k : KpB P w w') : WV K w' P q cr v m ts bs := by
 obtain ⟨pa, va, fa, la, sa, ta, ba, pn, pc, vn, vc, fn, fc, ln, lc, sn, sc, tn, tc, bn, bc, rfl, h⟩ := h
 exact ⟨pa, va, fa, la, sa, ta, ba, pn, pc, vn, vc, fn, fc, ln, lc, sn, sc, tn, tc, bn, bc, rfl, h.kp k⟩
theorem WV.of (h : WV K w P q cr v m ts bs) (he : Ext w w') : WV K w' P q cr v m ts bs := h.kp (KpB.of_ext he)
theorem WV.imp (h : WV K w P q cr v m ts bs) {P' : Nat → Prop} (hp : ∀ b, P b → P' b) : WV K w P' q cr v m ts bs := by
 obtain ⟨pa, va, fa, la, sa, ta, ba, pn, pc, vn, vc, fn, fc, ln, lc, sn, sc, tn, tc, bn, bc, rfl, h⟩ := h
 exact ⟨pa, va, fa, la, sa, ta, ba, pn, pc, vn, vc, fn, fc, ln, lc, sn, sc, tn, tc, bn, bc, rfl, h.imp hp⟩
theorem WV.bnd (h : WV K w P q cr v m ts bs) : WV K w (fun b => P b ∧ b < w.heap.size) q cr v m ts bs := by
 obtain ⟨pa, va, fa, la, sa, ta, ba, pn, pc, vn, vc, fn, fc, ln, lc, sn, sc, tn, tc, bn, bc, rfl, h⟩ := h
 exact ⟨pa, va, fa, la, sa, ta, ba, pn, pc, vn, vc, fn, fc, ln, lc, sn, sc, tn, tc, bn, bc, rfl, h.bnd⟩
end
theorem wv_end {K : CodeK} {P : Nat → Prop} {w V w2 Z : World} (hP : ∀ b, P b → b < w.heap.size) (hE : Ext w V) (hX : Ext V w2) {L : List Nat} (hL : ∀ g ∈ L, w.heap.size ≤ g ∧ (g < V.heap.size ∨ w2.heap.size ≤ g)) {q : Option Nat} {cr : Int} {v : Value} {m : Mc} {ts : List (Tk K.C)} {bs : List Bool} (hm : WV K w2 (fun b => P b ∨ V.heap.size ≤ b) q cr v m ts bs) (hG : GrL L w2 Z) :
 Ext w Z ∧ WV K Z (fun b => P b ∨ w.heap.size ≤ b) q cr v m ts bs :=
 ⟨(hE.trans hX).grl hG (fun g hg => (hL g hg).1), (WV.kp hm.bnd (kp_end hP hL hG)).imp (fun _ h => h.1.imp id (fun h => Nat.le_trans hE.size h))⟩
set_option maxRecDepth 100000 in
set_option maxHeartbeats 1000000 in
theorem wStep_no {w : World} {pa va fa la sa ta ba : Option Addr} {pn pc vn vc fn fc ln lc sn sc tn tc bn bc : Nat} (q : Option Nat) (cr kd t ch : Int) (hvn : 0 < vn) (h2 : ¬ kd = 2) (tb : Bool) (htb : tb = false ∨ (¬ kd = 0 ∧ ¬ kd = 1)) (ht : ∀ W, Ext w W → Calls Tryz.prog 80 #[.agg #[.slice pa pn pc, .slice va vn vc, .slice fa fn fc, .slice la ln lc, .map q, .slice sa sn sc, .int .i64 cr, .slice ta tn tc, .slice ba bn bc], .int .i64 t] W fun e w' => e = .returned (.bool tb) ∧ ∃ r, w' = ext W r) :
 Calls Tryz.prog 57 #[.agg #[.slice pa pn pc, .slice va vn vc, .slice fa fn fc, .slice la ln lc, .map q, .slice sa sn sc, .int .i64 cr, .slice ta tn tc, .slice ba bn bc], .agg #[.int .i64 kd, .int .i64 t, .int .i64 ch]] w fun e w' => e = .returned (.tuple #[.agg #[.slice pa pn pc, .slice va vn vc, .slice fa fn fc, .slice la ln lc, .map q, .slice sa sn sc, .int .i64 cr, .slice ta tn tc, .slice ba bn bc], .bool false]) ∧ Ext w w' := by
 have HT := hid ht
 have hv0 : decide (vn = 0) = false := decide_eq_false (by omega)
 clear ht hvn
 go_enter Tryz.func57, Tryz.ntmps57
 go_wp2_with fail
 refine (wdead_any pa va fa la sa ta ba pn pc vn vc fn fc ln lc sn sc tn tc bn bc q cr _).mono ?_
 rintro e w1 ⟨rfl, r1, rfl⟩
 rw [hv0]
 go_wp2_with fail
 refine (HT.out _ (by exact exP)).mono ?_
 rintro e w2 ⟨rfl, r2, rfl⟩
 generalize hV_ : ext _ r2 = V
 have HE_V := hid (show Ext w V by rw [← hV_]; exact exP)
 have HB_b2 := hid (show Blk V (w.heap.size) [.slice pa pn pc, .slice va vn vc, .slice fa fn fc, .slice la ln lc, .map q, .slice sa sn sc, .int .i64 cr, .slice ta tn tc, .slice ba bn bc] by rw [← hV_]; exact bkP)
 have HB_b3 := hid (show Blk V (w.heap.size + 1) [.int .i64 kd, .int .i64 t, .int .i64 ch] by rw [← hV_]; exact bkP)
 have HB_b4 := hid (show Blk V (w.heap.size + 1 + 1) [.slice none 0 0, .slice none 0 0, .slice none 0 0, .slice none 0 0, .map none, .slice none 0 0, .int .i64 0, .slice none 0 0, .slice none 0 0] by rw [← hV_]; exact bkP)
 clear hV_
 obtain ⟨b4, hg_b4⟩ : ∃ g, g = w.heap.size + 1 + 1 := ⟨_, rfl⟩
 simp only [← hg_b4] at HB_b4 ⊢
 obtain ⟨b3, hg_b3⟩ : ∃ g, g = w.heap.size + 1 := ⟨_, rfl⟩
 simp only [← hg_b3] at HB_b3 ⊢
 obtain ⟨b2, hg_b2⟩ : ∃ g, g = w.heap.size := ⟨_, rfl⟩
 simp only [← hg_b2] at HB_b2 ⊢
 have HN_V := hid (show b2 = w.heap.size ∧ b3 = w.heap.size + 1 ∧ b4 = w.heap.size + 1 + 1 ∧ b4 < V.heap.size from ⟨hg_b2, hg_b3, hg_b4, HB_b4.out.1⟩)
 clear hg_b2 hg_b3 hg_b4
 have d0 := (HB_b2.out).2.2 0 _ rfl
 have d1 := (HB_b2.out).2.2 1 _ rfl
 have d2 := (HB_b2.out).2.2 2 _ rfl
 have d3 := (HB_b2.out).2.2 3 _ rfl
 have d4 := (HB_b2.out).2.2 4 _ rfl
 have d5 := (HB_b2.out).2.2 5 _ rfl
 have d6 := (HB_b2.out).2.2 6 _ rfl
 have d7 := (HB_b2.out).2.2 7 _ rfl
 have d8 := (HB_b2.out).2.2 8 _ rfl
 have df := (HB_b2.out).2.1
 have dg := (HB_b2.out).1
 have e0 := (HB_b3.out).2.2 0 _ rfl
 have e1 := (HB_b3.out).2.2 1 _ rfl
 have e2 := (HB_b3.out).2.2 2 _ rfl
 have ef := (HB_b3.out).2.1
 have eg := (HB_b3.out).1
 have a0 := (HB_b4.out).2.2 0 _ rfl
 have a1 := (HB_b4.out).2.2 1 _ rfl
 have a2 := (HB_b4.out).2.2 2 _ rfl
 have a3 := (HB_b4.out).2.2 3 _ rfl
 have a4 := (HB_b4.out).2.2 4 _ rfl
 have a5 := (HB_b4.out).2.2 5 _ rfl
 have a6 := (HB_b4.out).2.2 6 _ rfl
 have a7 := (HB_b4.out).2.2 7 _ rfl
 have a8 := (HB_b4.out).2.2 8 _ rfl
 have af := (HB_b4.out).2.1
 have ag := (HB_b4.out).1
 have HZ := hid (fun Z (hg : GrL [b4] V Z) => (HE_V.out.grl hg (by have := HN_V.out; simp; omega)))
 rcases htb with rfl | ⟨h0, h1⟩
 ·(repeat (first | go_values | go_skip | go_guarded | go_step | go_upon | (simp only [Int.not_lt, Int.not_le] at *; go_simp) | (go_ite <;> go_prune <;> (try go_simp))))
  exact bodyPost_ret (v := .tuple #[.agg #[.slice pa pn pc, .slice va vn vc, .slice fa fn fc, .slice la ln lc, .map q, .slice sa sn sc, .int .i64 cr, .slice ta tn tc, .slice ba bn bc], .bool false]) (by simp [results, Tryz.results57, go_sem, a0, a1, a2, a3, a4, a5, a6, a7, a8, af, ag]) rfl ⟨rfl, HZ.out _ (by exact glP)⟩
 ·cases tb
  ·(repeat (first | go_values | go_skip | go_guarded | go_step | go_upon | (simp only [Int.not_lt, Int.not_le] at *; go_simp) | (go_ite <;> go_prune <;> (try go_simp))))
   exact bodyPost_ret (v := .tuple #[.agg #[.slice pa pn pc, .slice va vn vc, .slice fa fn fc, .slice la ln lc, .map q, .slice sa sn sc, .int .i64 cr, .slice ta tn tc, .slice ba bn bc], .bool false]) (by simp [results, Tryz.results57, go_sem, a0, a1, a2, a3, a4, a5, a6, a7, a8, af, ag]) rfl ⟨rfl, HZ.out _ (by exact glP)⟩
  ·(repeat (first | go_values | go_skip | go_guarded | go_step | go_upon | (simp only [Int.not_lt, Int.not_le] at *; go_simp) | (go_ite <;> go_prune <;> (try go_simp))))
   exact bodyPost_ret (v := .tuple #[.agg #[.slice pa pn pc, .slice va vn vc, .slice fa fn fc, .slice la ln lc, .map q, .slice sa sn sc, .int .i64 cr, .slice ta tn tc, .slice ba bn bc], .bool false]) (by simp [results, Tryz.results57, go_sem, a0, a1, a2, a3, a4, a5, a6, a7, a8, af, ag]) rfl ⟨rfl, HZ.out _ (by exact glP)⟩
set_option maxRecDepth 100000 in
set_option maxHeartbeats 1000000 in
theorem wStep_go {K : CodeK} {w : World} {P : Nat → Prop} (hP : ∀ b, P b → b < w.heap.size) {pa va fa la sa ta ba : Option Addr} {pn pc vn vc fn fc ln lc sn sc tn tc bn bc : Nat} (q : Option Nat) (cr t ch : Int) (hvn : 0 < vn) (ht : ∀ W, Ext w W → Calls Tryz.prog 80 #[.agg #[.slice pa pn pc, .slice va vn vc, .slice fa fn fc, .slice la ln lc, .map q, .slice sa sn sc, .int .i64 cr, .slice ta tn tc, .slice ba bn bc], .int .i64 t] W fun e w' => e = .returned (.bool true) ∧ ∃ r, w' = ext W r) {m' : Mc} {ts' : List (Tk K.C)} {bs' : List Bool}
 (hs : ∀ W, Ext w W → Calls Tryz.prog 81 #[.agg #[.slice pa pn pc, .slice va vn vc, .slice fa fn fc, .slice la ln lc, .map q, .slice sa sn sc, .int .i64 cr, .slice ta tn tc, .slice ba bn bc], .int .i64 t, .int .i64 ch] W fun e w' => ∃ v', e = .returned v' ∧ Ext W w' ∧ WV K w' (fun b => P b ∨ W.heap.size ≤ b) q cr v' m' ts' bs') :
 Calls Tryz.prog 57 #[.agg #[.slice pa pn pc, .slice va vn vc, .slice fa fn fc, .slice la ln lc, .map q, .slice sa sn sc, .int .i64 cr, .slice ta tn tc, .slice ba bn bc], .agg #[.int .i64 0, .int .i64 t, .int .i64 ch]] w fun e w' => ∃ v', e = .returned (.tuple #[v', .bool true]) ∧ Ext w w' ∧ WV K w' (fun b => P b ∨ w.heap.size ≤ b) q cr v' m' ts' bs' := by
 have HT := hid ht
 have HS := hid hs
 have HP := hid hP
 have hv0 : decide (vn = 0) = false := decide_eq_false (by omega)
 clear ht hvn hs hP
 go_enter Tryz.func57, Tryz.ntmps57
 go_wp2_with fail
 refine (wdead_any pa va fa la sa ta ba pn pc vn vc fn fc ln lc sn sc tn tc bn bc q cr _).mono ?_
 rintro e w1 ⟨rfl, r1, rfl⟩
 rw [hv0]
 go_wp2_with fail
 refine (HT.out _ (by exact exP)).mono ?_
 rintro e w2 ⟨rfl, r2, rfl⟩
 go_wp2_with fail
 generalize hV_ : ext _ r2 = V
 have HE_V := hid (show Ext w V by rw [← hV_]; exact exP)
 have HB_b2 := hid (show Blk V (w.heap.size) [.slice pa pn pc, .slice va vn vc, .slice fa fn fc, .slice la ln lc, .map q, .slice sa sn sc, .int .i64 cr, .slice ta tn tc, .slice ba bn bc] by rw [← hV_]; exact bkP)
 have HB_b3 := hid (show Blk V (w.heap.size + 1) [.int .i64 0, .int .i64 t, .int .i64 ch] by rw [← hV_]; exact bkP)
 have HB_b4 := hid (show Blk V (w.heap.size + 1 + 1) [.slice none 0 0, .slice none 0 0, .slice none 0 0, .slice none 0 0, .map none, .slice none 0 0, .int .i64 0, .slice none 0 0, .slice none 0 0] by rw [← hV_]; exact bkP)
 clear hV_
 obtain ⟨b4, hg_b4⟩ : ∃ g, g = w.heap.size + 1 + 1 := ⟨_, rfl⟩
 simp only [← hg_b4] at HB_b4 ⊢
 obtain ⟨b3, hg_b3⟩ : ∃ g, g = w.heap.size + 1 := ⟨_, rfl⟩
 simp only [← hg_b3] at HB_b3 ⊢
 obtain ⟨b2, hg_b2⟩ : ∃ g, g = w.heap.size := ⟨_, rfl⟩
 simp only [← hg_b2] at HB_b2 ⊢
 have HN_V := hid (show b2 = w.heap.size ∧ b3 = w.heap.size + 1 ∧ b4 = w.heap.size + 1 + 1 ∧ b4 < V.heap.size from ⟨hg_b2, hg_b3, hg_b4, HB_b4.out.1⟩)
 clear hg_b2 hg_b3 hg_b4
 refine (HS.out V HE_V.out).mono ?_
 rintro e w3 ⟨v', rfl, he, hv⟩
 have HX := hid he
 have HV := hid hv
 obtain ⟨pa', va', fa', la', sa', ta', ba', pn', pc', vn', vc', fn', fc', ln', lc', sn', sc', tn', tc', bn', bc', rfl, -⟩ := hv
 have h4 := HB_b4.out.of he
 clear he
 have a0 := (h4).2.2 0 _ rfl
 have a1 := (h4).2.2 1 _ rfl
 have a2 := (h4).2.2 2 _ rfl
 have a3 := (h4).2.2 3 _ rfl
 have a4 := (h4).2.2 4 _ rfl
 have a5 := (h4).2.2 5 _ rfl
 have a6 := (h4).2.2 6 _ rfl
 have a7 := (h4).2.2 7 _ rfl
 have a8 := (h4).2.2 8 _ rfl
 have af := (h4).2.1
 have ag := (h4).1
 clear h4
 (repeat (first | go_values | go_skip | go_guarded | go_step | go_upon | (simp only [Int.not_lt, Int.not_le] at *; go_simp) | (go_ite <;> go_prune <;> (try go_simp))))
 refine bodyPost_ret (v := .tuple #[.agg #[.slice pa' pn' pc', .slice va' vn' vc', .slice fa' fn' fc', .slice la' ln' lc', .map q, .slice sa' sn' sc', .int .i64 cr, .slice ta' tn' tc', .slice ba' bn' bc'], .bool true]) (by simp [results, Tryz.results57, go_sem, a0, a1, a2, a3, a4, a5, a6, a7, a8, af, ag]) rfl ⟨_, rfl, ?_⟩
 generalize hZ_ : World.setCell _ _ _ = Z
 have hgz : GrL [b4] w3 Z := by rw [← hZ_]; exact glP
 exact wv_end HP.out HE_V.out HX.out (by have := HN_V.out; simp; omega) HV.out hgz
end Go.Proofs.YtiacdohaiidehaaGreatDoor
