/- The machine (simulcast/machine): small functions. Worlds in which some blocks of the call's own have been written: one notion that gives all that is asked behind it. No program in sight. The machine: read (Look alone). -/
import Derived.Test.YtiacdohaiidehaaGreatDoorPk12
namespace Go.Proofs.YtiacdohaiidehaaGreatDoor
set_option linter.unusedSimpArgs false
set_option linter.unusedVariables false
open Go.RowKit Go.Maps
section
variable (pa va fa la sa : Option Addr) (pn pc vn vc fn fc ln lc sn sc : Nat) (q : Option Nat) (cr : Int)
abbrev mcL : List Value := [.slice pa pn pc, .slice va vn vc, .slice fa fn fc, .slice la ln lc, .map q, .slice sa sn sc, .int .i64 cr]
theorem mcsize_any (w : World) : Calls Tryz.prog 77 #[.agg #[.slice pa pn pc, .slice va vn vc, .slice fa fn fc, .slice la ln lc, .map q, .slice sa sn sc, .int .i64 cr]] w fun e w' => e = .returned (.tuple #[.int .i64 vn, .int .i64 pn]) ∧ ∃ r, w' = ext w r := by
 go_enter Tryz.func77, Tryz.ntmps77
 go_wp2_with (go_call (msize_any pa va pn pc vn vc _) as e w' ⟨rfl, r1, rfl⟩)
 go_ret2
 exact ⟨rfl, by exact exP⟩
theorem mccheck_any (op : Int) (hop : op = 5 ∨ op = 6) (t at_ : Int) (ht : 1 ≤ t ∧ t ≤ vn) (hat : 0 ≤ at_ ∧ at_ < pn) (o1 o2 o3 n1 n2 n3 : Int) (w : World) : Calls Tryz.prog 111 #[.agg #[.slice pa pn pc, .slice va vn vc, .slice fa fn fc, .slice la ln lc, .map q, .slice sa sn sc, .int .i64 cr], .int .i64 t, .agg #[.int .i64 op, .int .i64 at_, .int .i64 o1, .int .u32 o2, .int .u32 o3, .int .i64 n1, .int .u32 n2, .int .u32 n3]] w fun e w' => e = .returned (.int .i64 0) ∧ ∃ r, w' = ext w r := by
 have h1 : ¬ t < 1 := by omega
 have h2 : ¬ (vn : Int) < t := by omega
 have h3 : ¬ at_ < 0 := by omega
 have h4 : ¬ (pn : Int) ≤ at_ := by omega
 clear ht hat
 rcases hop with rfl | rfl
 all_goals
  go_enter Tryz.func111, Tryz.ntmps111
  go_wp2_with (go_call (mcsize_any pa va fa la sa pn pc vn vc fn fc ln lc sn sc q cr _) as e w' ⟨rfl, r1, rfl⟩)
  go_ret
  exact ⟨rfl, by exact exP⟩
theorem mcchanges_any (op : Int) (hop : op = 5 ∨ op = 6) (at_ o1 o2 o3 n1 n2 n3 : Int) (w : World) : Calls Tryz.prog 112 #[.agg #[.int .i64 op, .int .i64 at_, .int .i64 o1, .int .u32 o2, .int .u32 o3, .int .i64 n1, .int .u32 n2, .int .u32 n3]] w fun e w' => e = .returned (.bool (op == 6)) ∧ ∃ r, w' = ext w r := by
 rcases hop with rfl | rfl
 all_goals
  go_enter Tryz.func112, Tryz.ntmps112
  go_wp2_with fail
  go_ret
  exact ⟨rfl, by exact exP⟩
end
open Go.RowKit
def GrL (L : List Nat) (w w' : World) : Prop := (w'.os = w.os ∧ w'.tape = w.tape ∧ w'.output = w.output) ∧ (w.heap.size ≤ w'.heap.size ∧ ∀ j, j < w.heap.size → j ∉ L → w'.heap[j]? = w.heap[j]?) ∧ (∀ D, TyK D w w') ∧ KpB (fun _ => False) w w'
section
variable {L : List Nat} {w w' w'' : World}
theorem GrL.refl : GrL L w w := ⟨⟨rfl, rfl, rfl⟩, ⟨Nat.le_refl _, fun _ _ _ => rfl⟩, fun _ => TyK.refl, KpB.refl⟩
theorem GrL.size (h : GrL L w w') : w.heap.size ≤ w'.heap.size := h.2.1.1
theorem GrL.trans (h : GrL L w w') (k : GrL L w' w'') : GrL L w w'' := ⟨⟨k.1.1.trans h.1.1, k.1.2.1.trans h.1.2.1, k.1.2.2.trans h.1.2.2⟩, ⟨Nat.le_trans h.size k.size, fun j hj hn => (k.2.1.2 j (Nat.lt_of_lt_of_le hj h.size) hn).trans (h.2.1.2 j hj hn)⟩, fun D => (h.2.2.1 D).trans (k.2.2.1 D), h.2.2.2.trans k.2.2.2⟩
theorem GrL.of_ext (he : Ext w w') : GrL L w w' := by
 have hb := he.below
 exact ⟨⟨hb.os, hb.tape, hb.output⟩, ⟨hb.size, fun j hj _ => hb.block j hj⟩, fun _ => TyK.of_ext he, KpB.of_ext he⟩
theorem GrL.ext (h : GrL L w w') (r : Xt) : GrL L w (ext w' r) := h.trans (GrL.of_ext ⟨r, rfl⟩)
theorem GrL.alloc (h : GrL L w w') (o : Obj) : GrL L w (w'.alloc o) := h.trans (GrL.of_ext (Ext.of_alloc _ _))
theorem GrL.drew (h : GrL L w w') : GrL L w w'.drew := h.trans (GrL.of_ext (Ext.refl _).drew)
theorem GrL.set (h : GrL L w w') {g i : Nat} (hg : g ∈ L) (u : Value) : GrL L w (w'.setCell ⟨g, i, none⟩ u) :=
 h.trans ⟨⟨rfl, rfl, rfl⟩, ⟨by rw [World.size_setCell]; exact Nat.le_refl _, fun j _ hn => Below.heap_setCell w' _ u j (by dsimp only; intro he; exact hn (he ▸ hg))⟩, fun _ => TyK.refl.setCell _ _, KpB.refl.setCell (fun h => h) _⟩
theorem GrL.wide {L' : List Nat} (h : GrL L w w') (hl : ∀ g ∈ L, g ∈ L' ∨ w.heap.size ≤ g) : GrL L' w w' := ⟨h.1, ⟨h.size, fun j hj hn => h.2.1.2 j hj (fun hm => by rcases hl j hm with h1 | h1; exact hn h1; omega)⟩, h.2.2⟩
theorem GrL.kp {P : Nat → Prop} (h : GrL L w w') (hp : ∀ g ∈ L, ¬ P g) : KpB P w w' := ⟨h.size, fun b hb hl => h.2.1.2 b hl (fun hm => hp b hm hb), h.2.2.2.2.2⟩
theorem GrL.kpm (h : GrL L w w') : KpB (fun _ => False) w w' := h.2.2.2
theorem GrL.ty {D : List TypeId} (h : GrL L w w') : TyK D w w' := h.2.2.1 D
theorem GrL.block (h : GrL L w w') {j : Nat} (hj : j < w.heap.size) (hn : j ∉ L) : w'.heap[j]? = w.heap[j]? := h.2.1.2 j hj hn
theorem GrL.cell (h : GrL L w w') {b i : Nat} {v : Value} (hb : b ∉ L) (hc : w.cell? ⟨b, i, none⟩ = some v) : w'.cell? ⟨b, i, none⟩ = some v := by
 rw [World.cell?_of_block (w := w) (h.block (World.block_lt_of_cell? w _ hc) hb)]; exact hc
theorem Ext.grl {W : World} (h : Ext W w) (k : GrL L w w') (hg : ∀ g ∈ L, W.heap.size ≤ g) : Ext W w' := by
 have hb := h.below
 exact Ext.of_below ⟨k.1.1.trans hb.os, k.1.2.1.trans hb.tape, k.1.2.2.trans hb.output, Nat.le_trans hb.size k.size, fun j hj => (k.block (Nat.lt_of_lt_of_le hj hb.size) (fun hm => by have := hg j hm; omega)).trans (hb.block j hj)⟩
theorem Blk.grl {b : Nat} {l : List Value} (h : Blk w b l) (k : GrL L w w') (hb : b ∉ L) : Blk w' b l := by
 have e : w'.heap[b]? = w.heap[b]? := k.block h.1 hb
 exact ⟨Nat.lt_of_lt_of_le h.1 k.size, fun j => by rw [World.frozen?_of_block (w := w) e]; exact h.2.1 j, fun j v hv => by rw [World.cell?_of_block (w := w) e]; exact h.2.2 j v hv⟩
theorem Blk.cast {w : World} {b : Nat} {l l' : List Value} (h : Blk w b l) (e : l = l') : Blk w b l' := e ▸ h
theorem Own.grl {α : Type} {enc : α → List Value} {base : Nat} {e : TypeId} {size : Nat} {v : Value} {l : List α} (h : Own w base e size enc v l) (k : GrL L w w') (hne : ∀ g ∈ L, v.ownBlock ≠ some g) : Own w' base e size enc v l := by
 obtain ⟨h1, h2⟩ := h
 refine ⟨h1, h2.imp id ?_⟩
 rintro ⟨g, cap, cur, rfl, hb, hg, r⟩
 exact ⟨g, cap, cur, rfl, hb, by rw [k.block (Array.getElem?_eq_some_iff.1 hg).1 (fun hm => hne g hm rfl)]; exact hg, r⟩
end
theorem bcP {w : World} {b : Nat} {l : List Value} (h : Blk w b l := by (show Blk _ _ _; (with_reducible apply Blk.cast); (repeat first | (with_reducible first | (refine xH ?_; assumption) | assumption | apply bD | apply bX | apply bA | apply Blk.set) | ((with_reducible apply bO); first | omega | (simp; omega))); all_goals (first | rfl | (simp; done)))) : Blk w b l := h
theorem glP {L : List Nat} {w w' : World} (h : GrL L w w' := by (show GrL _ _ _; repeat (first | with_reducible exact GrL.refl | ((with_reducible refine GrL.set ?_ ?_ _); rotate_left 1; focus (simp; done)) | ((with_reducible refine GrL.ext ?_ _)) | ((with_reducible refine GrL.alloc ?_ _)) | ((with_reducible refine GrL.drew ?_))))) : GrL L w w' := h
open Go.RowKit Go.Maps
theorem fp_not {P : Nat → Prop} {w V W : World} (hP : ∀ b, P b → b < w.heap.size) {D : List TypeId} {L : List Nat} (hL : ∀ g ∈ L, w.heap.size ≤ g ∧ (g < V.heap.size ∨ W.heap.size ≤ g)) : ∀ g ∈ L, ¬ (P g ∨ NewB D V W g) := fun g hg h => by
 have h1 := hL g hg
 rcases h with h | h
 ·have := hP g h; omega
 ·obtain ⟨h2, o, h3, _⟩ := h
  have := (Array.getElem?_eq_some_iff.1 h3).1
  omega
theorem NewB.wide {D D' : List TypeId} {w w' : World} {b : Nat} (h : NewB D w w' b) (hd : ∀ t ∈ D, t ∈ D') : NewB D' w w' b := by
 obtain ⟨h1, o, h2, h3⟩ := h
 exact ⟨h1, o, h2, by
  cases o <;> first | exact h3 | exact hd _ h3⟩
theorem me_end {P : Nat → Prop} {w V w2 Z : World} (hP : ∀ b, P b → b < w.heap.size) (hE : Ext w V) (hX : Ext V w2) {L : List Nat} (hL : ∀ g ∈ L, w.heap.size ≤ g ∧ (g < V.heap.size ∨ w2.heap.size ≤ g)) {a b : Value} {m : Me} (hm : MeR w2 (fun b => P b ∨ NewB memD V w2 b) a b m) (hG : GrL L w2 Z) :
 Ext w Z ∧ MeR Z (fun b => P b ∨ NewB memD w Z b) a b m :=
 ⟨(hE.trans hX).grl hG (fun g hg => (hL g hg).1), (MeR.kp hm (hG.kp (fp_not hP hL))).imp (fun _ h => h.imp id (fun h => h.to hE.size hG.ty))⟩
theorem ln_end {P : Nat → Prop} {w V w2 Z : World} (hP : ∀ b, P b → b < w.heap.size) (hE : Ext w V) (hX : Ext V w2) {L : List Nat} (hL : ∀ g ∈ L, w.heap.size ≤ g ∧ (g < V.heap.size ∨ w2.heap.size ≤ g)) {a b : Value} {m : Ln} (hm : LnR w2 (fun b => P b ∨ NewB lnD V w2 b) a b m) (hG : GrL L w2 Z) :
 Ext w Z ∧ LnR Z (fun b => P b ∨ NewB lnD w Z b) a b m :=
 ⟨(hE.trans hX).grl hG (fun g hg => (hL g hg).1), (LnR.kp hm (hG.kp (fp_not hP hL))).imp (fun _ h => h.imp id (fun h => h.to hE.size hG.ty))⟩
set_option maxRecDepth 100000 in
set_option maxHeartbeats 1000000 in
theorem mcread_any {w : World} {P : Nat → Prop} (hP : ∀ b, P b → b < w.heap.size) {pa va : Option Addr} {pn pc vn vc : Nat} {m : Me} (h : MeR w P (.slice pa pn pc) (.slice va vn vc) m) (fa la sa : Option Addr) (fn fc ln lc sn sc : Nat) (q : Option Nat) (cr : Int) (t ti : Nat) (ht : t = ti + 1) (f : Int → Nat) (hf : m.vs[ti]? = some f) (hvn : vn ≤ 1000) (hpn : pn ≤ 5000)
 (at_ : Nat) (l : List Mg) (hl : m.pl[at_]? = some l) (x1 x2 x3 x4 : Int) (g : Int → Nat) (hm : l[l.length - 1]? = some ⟨(x1, x2, x3), x4, g⟩) (hi : l.length ≤ 1000000) (o1 o2 o3 n1 n2 n3 ch : Int) :
 Calls Tryz.prog 116 #[.agg #[.slice pa pn pc, .slice va vn vc, .slice fa fn fc, .slice la ln lc, .map q, .slice sa sn sc, .int .i64 cr], .int .i64 t, .agg #[.int .i64 5, .int .i64 at_, .int .i64 o1, .int .u32 o2, .int .u32 o3, .int .i64 n1, .int .u32 n2, .int .u32 n3], .int .i64 ch] w fun e w' => ∃ va' vc', e = .returned (.tuple #[.agg #[.slice pa pn pc, .slice va' vn vc', .slice fa fn fc, .slice la ln lc, .map q, .slice sa sn sc, .int .i64 cr], .agg #[.int .i64 x1, .int .u32 x2, .int .u32 x3, .bool true]]) ∧ Ext w w' ∧ MeR w' (fun b => P b ∨ NewB memD w w' b) (.slice pa pn pc) (.slice va' vn vc') (meFinds m ti at_ (l.length - 1) true f g) := by
 have H := hid h
 have HP := hid hP
 have HF := hid hf
 have HM := hid hm
 have HT := hid ht
 have HI := hid hi
 have HVn := hid hvn
 have HPn := hid hpn
 have HLl := hid hl
 clear h hP hf hm ht hi hvn hpn hl
 go_enter Tryz.func116, Tryz.ntmps116
 go_wp2_with fail
 generalize hV_ : World.alloc _ _ = V
 have HE_V := hid (show Ext w V by rw [← hV_]; exact exP)
 have HB_g4 := hid (show Blk V (w.heap.size) [.slice pa pn pc, .slice va vn vc, .slice fa fn fc, .slice la ln lc, .map q, .slice sa sn sc, .int .i64 cr] by rw [← hV_]; exact bkP)
 have HB_g6 := hid (show Blk V (w.heap.size + 1) [.int .i64 5, .int .i64 at_, .int .i64 o1, .int .u32 o2, .int .u32 o3, .int .i64 n1, .int .u32 n2, .int .u32 n3] by rw [← hV_]; exact bkP)
 have HB_g8 := hid (show Blk V (w.heap.size + 1 + 1) [.slice none 0 0, .slice none 0 0, .slice none 0 0, .slice none 0 0, .map none, .slice none 0 0, .int .i64 0] by rw [← hV_]; exact bkP)
 have HB_g9 := hid (show Blk V (w.heap.size + 1 + 1 + 1) [.int .i64 0, .int .u32 0, .int .u32 0, .bool false] by rw [← hV_]; exact bkP)
 have HB_g10 := hid (show Blk V (w.heap.size + 1 + 1 + 1 + 1) [.int .i64 0, .int .u32 0, .int .u32 0] by rw [← hV_]; exact bkP)
 clear hV_
 obtain ⟨g10, hg_g10⟩ : ∃ g, g = w.heap.size + 1 + 1 + 1 + 1 := ⟨_, rfl⟩
 simp only [← hg_g10] at HB_g10 ⊢
 obtain ⟨g9, hg_g9⟩ : ∃ g, g = w.heap.size + 1 + 1 + 1 := ⟨_, rfl⟩
 simp only [← hg_g9] at HB_g9 ⊢
 obtain ⟨g8, hg_g8⟩ : ∃ g, g = w.heap.size + 1 + 1 := ⟨_, rfl⟩
 simp only [← hg_g8] at HB_g8 ⊢
 obtain ⟨g6, hg_g6⟩ : ∃ g, g = w.heap.size + 1 := ⟨_, rfl⟩
 simp only [← hg_g6] at HB_g6 ⊢
 obtain ⟨g4, hg_g4⟩ : ∃ g, g = w.heap.size := ⟨_, rfl⟩
 simp only [← hg_g4] at HB_g4 ⊢
 have HN_V := hid (show g4 = w.heap.size ∧ g6 = w.heap.size + 1 ∧ g8 = w.heap.size + 1 + 1 ∧ g9 = w.heap.size + 1 + 1 + 1 ∧ g10 = w.heap.size + 1 + 1 + 1 + 1 ∧ g10 < V.heap.size from ⟨hg_g4, hg_g6, hg_g8, hg_g9, hg_g10, HB_g10.out.1⟩)
 clear hg_g4 hg_g6 hg_g8 hg_g9 hg_g10
 refine (mLook_any (P := P) (fun b h => Nat.lt_of_lt_of_le (HP.out b h) HE_V.out.size) (H.out.of HE_V.out) t ti HT.out f HF.out HVn.out HPn.out at_ l HLl.out x1 x2 x3 x4 g HM.out HI.out).mono ?_
 rintro e w2 ⟨va', vc', rfl, he, hm⟩
 have HX := hid he
 have HMe := hid hm
 have h4 := HB_g4.out.of he
 have h10 := HB_g10.out.of he
 clear he hm
 have a0 := (h4).2.2 0 _ rfl
 have a1 := (h4).2.2 1 _ rfl
 have a2 := (h4).2.2 2 _ rfl
 have a3 := (h4).2.2 3 _ rfl
 have a4 := (h4).2.2 4 _ rfl
 have a5 := (h4).2.2 5 _ rfl
 have a6 := (h4).2.2 6 _ rfl
 have af := (h4).2.1
 have ag := (h4).1
 have c0 := (h10).2.2 0 _ rfl
 have c1 := (h10).2.2 1 _ rfl
 have c2 := (h10).2.2 2 _ rfl
 have cf := (h10).2.1
 have cg := (h10).1
 clear h4 h10
 have d_g4_g10 : ¬ g4 = g10 := by have hn_ := HN_V.out; omega
 have d_g4_g8 : ¬ g4 = g8 := by have hn_ := HN_V.out; omega
 have d_g4_g9 : ¬ g4 = g9 := by have hn_ := HN_V.out; omega
 have d_g10_g4 : ¬ g10 = g4 := by have hn_ := HN_V.out; omega
 have d_g10_g8 : ¬ g10 = g8 := by have hn_ := HN_V.out; omega
 have d_g10_g9 : ¬ g10 = g9 := by have hn_ := HN_V.out; omega
 have d_g8_g4 : ¬ g8 = g4 := by have hn_ := HN_V.out; omega
 have d_g8_g10 : ¬ g8 = g10 := by have hn_ := HN_V.out; omega
 have d_g8_g9 : ¬ g8 = g9 := by have hn_ := HN_V.out; omega
 have d_g9_g4 : ¬ g9 = g4 := by have hn_ := HN_V.out; omega
 have d_g9_g10 : ¬ g9 = g10 := by have hn_ := HN_V.out; omega
 have d_g9_g8 : ¬ g9 = g8 := by have hn_ := HN_V.out; omega
 go_upto_region 5 with fail
 have hn_ := HN_V.out
 have h_g4 := (HB_g4.out.of HX.out)
 have h_g10 := (HB_g10.out.of HX.out)
 generalize hV_ : World.setCell _ _ _ = W
 have HG_W := hid (show GrL [g4, g10] w2 W by rw [← hV_]; exact glP)
 have hz_g4 := hid (show Blk W g4 [.slice pa pn pc, .slice va' vn vc', .slice fa fn fc, .slice la ln lc, .map q, .slice sa sn sc, .int .i64 cr] by rw [← hV_]; exact bcP)
 have hz_g10 := hid (show Blk W g10 [.int .i64 x1, .int .u32 x2, .int .u32 x3] by rw [← hV_]; exact bcP)
 clear hV_ h_g4 h_g10
 have hz_g8 := hid (Blk.grl (HB_g8.out.of HX.out) HG_W.out (by simp; omega))
 have hz_g9 := hid (Blk.grl (HB_g9.out.of HX.out) HG_W.out (by simp; omega))
 clear HB_g4
 have HB_g4 := hz_g4
 clear hz_g4
 clear HB_g10
 have HB_g10 := hz_g10
 clear hz_g10
 clear HB_g8
 have HB_g8 := hz_g8
 clear hz_g8
 clear HB_g9
 have HB_g9 := hz_g9
 clear hz_g9
 clear hn_
 clear a0 a1 a2 a3 a4 a5 a6 af ag c0 c1 c2 cf cg
 have b0 := (HB_g8.out).2.2 0 _ rfl
 have b1 := (HB_g8.out).2.2 1 _ rfl
 have b2 := (HB_g8.out).2.2 2 _ rfl
 have b3 := (HB_g8.out).2.2 3 _ rfl
 have b4 := (HB_g8.out).2.2 4 _ rfl
 have b5 := (HB_g8.out).2.2 5 _ rfl
 have b6 := (HB_g8.out).2.2 6 _ rfl
 have bf := (HB_g8.out).2.1
 have bg := (HB_g8.out).1
 have d0 := (HB_g9.out).2.2 0 _ rfl
 have d1 := (HB_g9.out).2.2 1 _ rfl
 have d2 := (HB_g9.out).2.2 2 _ rfl
 have d3 := (HB_g9.out).2.2 3 _ rfl
 have df := (HB_g9.out).2.1
 have dg := (HB_g9.out).1
 have HSt_ := hid (show ∀ w', GrL [g8, g9] W w' → (fun w' => (w'.cell? ⟨g4, 0, none⟩ = some (.slice pa pn pc) ∧ w'.cell? ⟨g4, 1, none⟩ = some (.slice va' vn vc') ∧ w'.cell? ⟨g4, 2, none⟩ = some (.slice fa fn fc) ∧ w'.cell? ⟨g4, 3, none⟩ = some (.slice la ln lc) ∧ w'.cell? ⟨g4, 4, none⟩ = some (.map q) ∧ w'.cell? ⟨g4, 5, none⟩ = some (.slice sa sn sc) ∧ w'.cell? ⟨g4, 6, none⟩ = some (.int .i64 cr) ∧ g4 < w'.heap.size) ∧ (w'.cell? ⟨g10, 0, none⟩ = some (.int .i64 x1) ∧ w'.cell? ⟨g10, 1, none⟩ = some (.int .u32 x2) ∧ w'.cell? ⟨g10, 2, none⟩ = some (.int .u32 x3) ∧ g10 < w'.heap.size)) w' from fun w' G_ => by have h0_ := Blk.grl HB_g4.out G_ (by have := HN_V.out; simp; omega); have h1_ := Blk.grl HB_g10.out G_ (by have := HN_V.out; simp; omega); exact ⟨⟨h0_.2.2 0 _ rfl, h0_.2.2 1 _ rfl, h0_.2.2 2 _ rfl, h0_.2.2 3 _ rfl, h0_.2.2 4 _ rfl, h0_.2.2 5 _ rfl, h0_.2.2 6 _ rfl, h0_.1⟩, ⟨h1_.2.2 0 _ rfl, h1_.2.2 1 _ rfl, h1_.2.2 2 _ rfl, h1_.1⟩⟩)
 refine wp_region_held_drew (S := fun w' => (w'.cell? ⟨g4, 0, none⟩ = some (.slice pa pn pc) ∧ w'.cell? ⟨g4, 1, none⟩ = some (.slice va' vn vc') ∧ w'.cell? ⟨g4, 2, none⟩ = some (.slice fa fn fc) ∧ w'.cell? ⟨g4, 3, none⟩ = some (.slice la ln lc) ∧ w'.cell? ⟨g4, 4, none⟩ = some (.map q) ∧ w'.cell? ⟨g4, 5, none⟩ = some (.slice sa sn sc) ∧ w'.cell? ⟨g4, 6, none⟩ = some (.int .i64 cr) ∧ g4 < w'.heap.size) ∧ (w'.cell? ⟨g10, 0, none⟩ = some (.int .i64 x1) ∧ w'.cell? ⟨g10, 1, none⟩ = some (.int .u32 x2) ∧ w'.cell? ⟨g10, 2, none⟩ = some (.int .u32 x3) ∧ g10 < w'.heap.size)) (by kernel_rfl) (by exact HSt_.out _ (by exact glP)) (fun hHeld => ?_)
 refine tkm 0 (v := ?_) rfl ?_ ?_
 rotate_left 1
 ·intro w hSw
  try dsimp only at hSw
  go_simp
  try with_reducible rfl
 (try simp only [Act.put, pA, pB, pC])
 refine tkm 1 (v := ?_) rfl ?_ ?_
 rotate_left 1
 ·intro w hSw
  try dsimp only at hSw
  go_simp
  try with_reducible rfl
 (try simp only [Act.put, pA, pB, pC])
 refine tkm 2 (v := ?_) rfl ?_ ?_
 rotate_left 1
 ·intro w hSw
  try dsimp only at hSw
  go_simp
  try with_reducible rfl
 (try simp only [Act.put, pA, pB, pC])
 refine take_only 3 (oi := ⟨_, _, _, _, _, _⟩) (by kernel_rfl) rfl (fun K hK => ?_)
 go_simp
 have hOld := hHeld
 clear hHeld
 refine hK.out _ _ (by exact HSt_.out _ (by exact glP)) (fun hHeld => ?_)
 clear hOld hK K
 (try simp only [Act.put, pA, pB, pC])
 refine take_only 4 (oi := ⟨_, _, _, _, _, _⟩) (by kernel_rfl) rfl (fun K hK => ?_)
 go_simp
 have hOld := hHeld
 clear hHeld
 refine hK.out _ _ (by exact HSt_.out _ (by exact glP)) (fun hHeld => ?_)
 clear hOld hK K
 (try simp only [Act.put, pA, pB, pC])
 refine wpAnyH_done (by kernel_rfl) ?_ _
 clear hHeld
 (repeat (first | go_values | go_skip | go_guarded | go_step | go_upon | (simp only [Int.not_lt, Int.not_le] at *; go_simp) | (go_ite <;> go_prune <;> (try go_simp))))
 refine bodyPost_ret (v := .tuple #[.agg #[.slice pa pn pc, .slice va' vn vc', .slice fa fn fc, .slice la ln lc, .map q, .slice sa sn sc, .int .i64 cr], .agg #[.int .i64 x1, .int .u32 x2, .int .u32 x3, .bool true]]) (by simp [results, Tryz.results116, go_sem, b0, b1, b2, b3, b4, b5, b6, bf, bg, d0, d1, d2, d3, df, dg, d_g8_g9, d_g9_g8]) rfl ⟨va', vc', rfl, ?_⟩
 exact me_end (L := [g4, g10, g8, g9]) HP.out HE_V.out HX.out (by have := HN_V.out; simp; omega) HMe.out ((HG_W.out.wide (by simp)).trans ((show GrL [g8, g9] W _ by exact glP).wide (by simp)))
end Go.Proofs.YtiacdohaiidehaaGreatDoor
