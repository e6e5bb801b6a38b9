/- Memory's Load. machine's read at a Load. The machine (simulcast/machine): check and Changes of Load, Store, Release, Flush. -/
import Derived.Test.YtiacdohaiidehaaGreatDoorPk22
namespace Go.Proofs.YtiacdohaiidehaaGreatDoor
set_option linter.unusedSimpArgs false
set_option linter.unusedVariables false
open Go.RowKit
set_option maxRecDepth 100000 in
set_option maxHeartbeats 1000000 in
theorem mLoad_any {w : World} {P : Nat → Prop} (hP : ∀ b, P b → b < w.heap.size) {pa va : Option Addr} {pn pc vn vc : Nat} {m : Me} (h : MeR w P (.slice pa pn pc) (.slice va vn vc) m) (t ti : Nat) (ht : t = ti + 1) (f : Int → Nat) (hf : m.vs[ti]? = some f) (hvn : vn ≤ 1000) (hpn : pn ≤ 5000)
 (at_ : Nat) (l : List Mg) (hl : m.pl[at_]? = some l) (x1 x2 x3 x4 : Int) (g : Int → Nat) (i : Nat) (hm : l[i]? = some ⟨(x1, x2, x3), x4, g⟩) (ch : Int) (hch : i = chooseN l.length (f at_) ch) (hi : l.length ≤ 1000000) :
 Calls Tryz.prog 132 #[.agg #[.slice pa pn pc, .slice va vn vc], .int .i64 t, .int .i64 at_, .bool false, .int .i64 ch] w fun e w' => ∃ va' vc', e = .returned (.tuple #[.agg #[.slice pa pn pc, .slice va' vn vc'], .agg #[.int .i64 x1, .int .u32 x2, .int .u32 x3], .int .i64 0]) ∧ Ext w w' ∧ MeR w' (fun b => P b ∨ NewB memD w w' b) (.slice pa pn pc) (.slice va' vn vc') (meFinds m ti at_ i false f g) := by
 have H := hid h
 have HP := hid hP
 have HF := hid hf
 have HM := hid hm
 have HT := hid ht
 have HI := hid hi
 have HVn := hid hvn
 have HPn := hid hpn
 have HLl := hid hl
 have HCh := hid hch
 clear hch
 clear h hP hf hm ht hi hvn hpn hl
 go_enter Tryz.func132, Tryz.ntmps132
 go_wp2_with fail
 generalize hV : World.alloc _ _ = V
 have HEV := hid (show Ext w V by rw [← hV]; exact exP)
 have HB6 := hid (show Blk V (w.heap.size + 1) [.slice none 0 0, .slice none 0 0] by rw [← hV]; exact bkP)
 have HB7 := hid (show Blk V (w.heap.size + 1 + 1) [.int .i64 0, .int .u32 0, .int .u32 0] by rw [← hV]; exact bkP)
 obtain ⟨g0, hg0⟩ : ∃ g, g = w.heap.size := ⟨_, rfl⟩
 have HGw := hid (show w.heap.size = g0 from hg0.symm)
 rw [← hg0] at HB6 HB7 ⊢
 clear hV hg0
 refine (mlookC_any (P := P) (fun b h => Nat.lt_of_lt_of_le (HP.out b h) HEV.out.size) (H.out.of HEV.out) t ti HT.out f HF.out HVn.out HPn.out at_ l HLl.out x1 x2 x3 x4 g i HM.out ch HCh.out HI.out).mono ?_
 rintro e w2 ⟨va', vc', rfl, he, hm⟩
 have HX := hid he
 have HMe := hid hm
 have h6 := HB6.out.of he
 have h7 := HB7.out.of he
 clear he hm
 have b0 := h6.2.2 0 _ rfl
 have b1 := h6.2.2 1 _ rfl
 have bf := h6.2.1
 have bg := h6.1
 have c0 := h7.2.2 0 _ rfl
 have c1 := h7.2.2 1 _ rfl
 have c2 := h7.2.2 2 _ rfl
 have cf := h7.2.1
 have cg := h7.1
 clear h6 h7
 have hgw := HGw.out
 have hb6 := HB6.out.1
 have hb7 := HB7.out.1
 have hn1 := hid (show ¬ (P (g0 + 1) ∨ NewB memD V w2 (g0 + 1)) from fun h => by
  rcases h with h | h
  ·have := HP.out _ h; omega
  ·have h1 := h.1; omega)
 have hn2 := hid (show ¬ (P (g0 + 1 + 1) ∨ NewB memD V w2 (g0 + 1 + 1)) from fun h => by
  rcases h with h | h
  ·have := HP.out _ h; omega
  ·have h1 := h.1; omega)
 clear hgw hb6 hb7
 (repeat (first | go_values | go_skip | go_guarded | go_step | go_upon | (simp only [Int.not_lt, Int.not_le] at *; go_simp) | (go_ite <;> go_prune <;> (try go_simp))))
 have hgw := HGw.out
 refine bodyPost_ret (v := .tuple #[.agg #[.slice pa pn pc, .slice va' vn vc'], .agg #[.int .i64 x1, .int .u32 x2, .int .u32 x3], .int .i64 0]) (by simp [results, Tryz.results132, go_sem, b0, b1, bf, bg, c0, c1, c2, cf, cg]) rfl ⟨va', vc', rfl, ?_, ?_⟩
 ·have HEw := hid (HEV.out.trans HX.out)
  exact exF
 ·refine (MeR.kp HMe.out (((((KpB.refl.setCell hn1.out _).setCell hn1.out _).setCell hn2.out _).setCell hn2.out _).setCell hn2.out _)).imp (fun n h => h.imp id (fun h => h.to HEV.out.size (by exact tyP)))
open Go.RowKit
set_option maxRecDepth 100000 in
set_option maxHeartbeats 1000000 in
theorem mcreadL_any {w : World} {P : Nat → Prop} (hP : ∀ b, P b → b < w.heap.size) {pa va : Option Addr} {pn pc vn vc : Nat} {m : Me} (h : MeR w P (.slice pa pn pc) (.slice va vn vc) m) (fa la sa : Option Addr) (fn fc ln lc sn sc : Nat) (q : Option Nat) (cr : Int) (t ti : Nat) (ht : t = ti + 1) (f : Int → Nat) (hf : m.vs[ti]? = some f) (hvn : vn ≤ 1000) (hpn : pn ≤ 5000)
 (at_ : Nat) (l : List Mg) (hl : m.pl[at_]? = some l) (x1 x2 x3 x4 : Int) (g : Int → Nat) (i : Nat) (hm : l[i]? = some ⟨(x1, x2, x3), x4, g⟩) (ch : Int) (hch : i = chooseN l.length (f at_) ch) (hi : l.length ≤ 1000000) (o1 o2 o3 n1 n2 n3 : Int) :
 Calls Tryz.prog 116 #[.agg #[.slice pa pn pc, .slice va vn vc, .slice fa fn fc, .slice la ln lc, .map q, .slice sa sn sc, .int .i64 cr], .int .i64 t, .agg #[.int .i64 1, .int .i64 at_, .int .i64 o1, .int .u32 o2, .int .u32 o3, .int .i64 n1, .int .u32 n2, .int .u32 n3], .int .i64 ch] w fun e w' => ∃ va' vc', e = .returned (.tuple #[.agg #[.slice pa pn pc, .slice va' vn vc', .slice fa fn fc, .slice la ln lc, .map q, .slice sa sn sc, .int .i64 cr], .agg #[.int .i64 x1, .int .u32 x2, .int .u32 x3, .bool true]]) ∧ Ext w w' ∧ MeR w' (fun b => P b ∨ NewB memD w w' b) (.slice pa pn pc) (.slice va' vn vc') (meFinds m ti at_ i false f g) := by
 have H := hid h
 have HP := hid hP
 have HF := hid hf
 have HM := hid hm
 have HT := hid ht
 have HI := hid hi
 have HVn := hid hvn
 have HPn := hid hpn
 have HLl := hid hl
 have HCh := hid hch
 clear hch
 clear h hP hf hm ht hi hvn hpn hl
 go_enter Tryz.func116, Tryz.ntmps116
 go_wp2_with fail
 generalize hV_ : World.alloc _ _ = V
 have HE_V := hid (show Ext w V by rw [← hV_]; exact exP)
 have HB_g4 := hid (show Blk V (w.heap.size) [.slice pa pn pc, .slice va vn vc, .slice fa fn fc, .slice la ln lc, .map q, .slice sa sn sc, .int .i64 cr] by rw [← hV_]; exact bkP)
 have HB_g6 := hid (show Blk V (w.heap.size + 1) [.int .i64 1, .int .i64 at_, .int .i64 o1, .int .u32 o2, .int .u32 o3, .int .i64 n1, .int .u32 n2, .int .u32 n3] by rw [← hV_]; exact bkP)
 have HB_g8 := hid (show Blk V (w.heap.size + 1 + 1) [.slice none 0 0, .slice none 0 0, .slice none 0 0, .slice none 0 0, .map none, .slice none 0 0, .int .i64 0] by rw [← hV_]; exact bkP)
 have HB_g9 := hid (show Blk V (w.heap.size + 1 + 1 + 1) [.int .i64 0, .int .u32 0, .int .u32 0, .bool false] by rw [← hV_]; exact bkP)
 have HB_g10 := hid (show Blk V (w.heap.size + 1 + 1 + 1 + 1) [.int .i64 0, .int .u32 0, .int .u32 0] by rw [← hV_]; exact bkP)
 clear hV_
 obtain ⟨g10, hg_g10⟩ : ∃ g, g = w.heap.size + 1 + 1 + 1 + 1 := ⟨_, rfl⟩
 simp only [← hg_g10] at HB_g10 ⊢
 obtain ⟨g9, hg_g9⟩ : ∃ g, g = w.heap.size + 1 + 1 + 1 := ⟨_, rfl⟩
 simp only [← hg_g9] at HB_g9 ⊢
 obtain ⟨g8, hg_g8⟩ : ∃ g, g = w.heap.size + 1 + 1 := ⟨_, rfl⟩
 simp only [← hg_g8] at HB_g8 ⊢
 obtain ⟨g6, hg_g6⟩ : ∃ g, g = w.heap.size + 1 := ⟨_, rfl⟩
 simp only [← hg_g6] at HB_g6 ⊢
 obtain ⟨g4, hg_g4⟩ : ∃ g, g = w.heap.size := ⟨_, rfl⟩
 simp only [← hg_g4] at HB_g4 ⊢
 have HN_V := hid (show g4 = w.heap.size ∧ g6 = w.heap.size + 1 ∧ g8 = w.heap.size + 1 + 1 ∧ g9 = w.heap.size + 1 + 1 + 1 ∧ g10 = w.heap.size + 1 + 1 + 1 + 1 ∧ g10 < V.heap.size from ⟨hg_g4, hg_g6, hg_g8, hg_g9, hg_g10, HB_g10.out.1⟩)
 clear hg_g4 hg_g6 hg_g8 hg_g9 hg_g10
 refine (mLoad_any (P := P) (fun b h => Nat.lt_of_lt_of_le (HP.out b h) HE_V.out.size) (H.out.of HE_V.out) t ti HT.out f HF.out HVn.out HPn.out at_ l HLl.out x1 x2 x3 x4 g i HM.out ch HCh.out HI.out).mono ?_
 rintro e w2 ⟨va', vc', rfl, he, hm⟩
 have HX := hid he
 have HMe := hid hm
 have h4 := HB_g4.out.of he
 have h10 := HB_g10.out.of he
 clear he hm
 have a0 := (h4).2.2 0 _ rfl
 have a1 := (h4).2.2 1 _ rfl
 have a2 := (h4).2.2 2 _ rfl
 have a3 := (h4).2.2 3 _ rfl
 have a4 := (h4).2.2 4 _ rfl
 have a5 := (h4).2.2 5 _ rfl
 have a6 := (h4).2.2 6 _ rfl
 have af := (h4).2.1
 have ag := (h4).1
 have c0 := (h10).2.2 0 _ rfl
 have c1 := (h10).2.2 1 _ rfl
 have c2 := (h10).2.2 2 _ rfl
 have cf := (h10).2.1
 have cg := (h10).1
 clear h4 h10
 have d_g4_g10 : ¬ g4 = g10 := by have hn_ := HN_V.out; omega
 have d_g4_g8 : ¬ g4 = g8 := by have hn_ := HN_V.out; omega
 have d_g4_g9 : ¬ g4 = g9 := by have hn_ := HN_V.out; omega
 have d_g10_g4 : ¬ g10 = g4 := by have hn_ := HN_V.out; omega
 have d_g10_g8 : ¬ g10 = g8 := by have hn_ := HN_V.out; omega
 have d_g10_g9 : ¬ g10 = g9 := by have hn_ := HN_V.out; omega
 have d_g8_g4 : ¬ g8 = g4 := by have hn_ := HN_V.out; omega
 have d_g8_g10 : ¬ g8 = g10 := by have hn_ := HN_V.out; omega
 have d_g8_g9 : ¬ g8 = g9 := by have hn_ := HN_V.out; omega
 have d_g9_g4 : ¬ g9 = g4 := by have hn_ := HN_V.out; omega
 have d_g9_g10 : ¬ g9 = g10 := by have hn_ := HN_V.out; omega
 have d_g9_g8 : ¬ g9 = g8 := by have hn_ := HN_V.out; omega
 go_upto_region 5 with fail
 have hn_ := HN_V.out
 have h_g4 := (HB_g4.out.of HX.out)
 have h_g10 := (HB_g10.out.of HX.out)
 generalize hV_ : World.setCell _ _ _ = W
 have HG_W := hid (show GrL [g4, g10] w2 W by rw [← hV_]; exact glP)
 have hz_g4 := hid (show Blk W g4 [.slice pa pn pc, .slice va' vn vc', .slice fa fn fc, .slice la ln lc, .map q, .slice sa sn sc, .int .i64 cr] by rw [← hV_]; exact bcP)
 have hz_g10 := hid (show Blk W g10 [.int .i64 x1, .int .u32 x2, .int .u32 x3] by rw [← hV_]; exact bcP)
 clear hV_ h_g4 h_g10
 have hz_g8 := hid (Blk.grl (HB_g8.out.of HX.out) HG_W.out (by simp; omega))
 have hz_g9 := hid (Blk.grl (HB_g9.out.of HX.out) HG_W.out (by simp; omega))
 clear HB_g4
 have HB_g4 := hz_g4
 clear hz_g4
 clear HB_g10
 have HB_g10 := hz_g10
 clear hz_g10
 clear HB_g8
 have HB_g8 := hz_g8
 clear hz_g8
 clear HB_g9
 have HB_g9 := hz_g9
 clear hz_g9
 clear hn_
 clear a0 a1 a2 a3 a4 a5 a6 af ag c0 c1 c2 cf cg
 have b0 := (HB_g8.out).2.2 0 _ rfl
 have b1 := (HB_g8.out).2.2 1 _ rfl
 have b2 := (HB_g8.out).2.2 2 _ rfl
 have b3 := (HB_g8.out).2.2 3 _ rfl
 have b4 := (HB_g8.out).2.2 4 _ rfl
 have b5 := (HB_g8.out).2.2 5 _ rfl
 have b6 := (HB_g8.out).2.2 6 _ rfl
 have bf := (HB_g8.out).2.1
 have bg := (HB_g8.out).1
 have d0 := (HB_g9.out).2.2 0 _ rfl
 have d1 := (HB_g9.out).2.2 1 _ rfl
 have d2 := (HB_g9.out).2.2 2 _ rfl
 have d3 := (HB_g9.out).2.2 3 _ rfl
 have df := (HB_g9.out).2.1
 have dg := (HB_g9.out).1
 have HSt_ := hid (show ∀ w', GrL [g8, g9] W w' → (fun w' => (w'.cell? ⟨g4, 0, none⟩ = some (.slice pa pn pc) ∧ w'.cell? ⟨g4, 1, none⟩ = some (.slice va' vn vc') ∧ w'.cell? ⟨g4, 2, none⟩ = some (.slice fa fn fc) ∧ w'.cell? ⟨g4, 3, none⟩ = some (.slice la ln lc) ∧ w'.cell? ⟨g4, 4, none⟩ = some (.map q) ∧ w'.cell? ⟨g4, 5, none⟩ = some (.slice sa sn sc) ∧ w'.cell? ⟨g4, 6, none⟩ = some (.int .i64 cr) ∧ g4 < w'.heap.size) ∧ (w'.cell? ⟨g10, 0, none⟩ = some (.int .i64 x1) ∧ w'.cell? ⟨g10, 1, none⟩ = some (.int .u32 x2) ∧ w'.cell? ⟨g10, 2, none⟩ = some (.int .u32 x3) ∧ g10 < w'.heap.size)) w' from fun w' G_ => by have h0_ := Blk.grl HB_g4.out G_ (by have := HN_V.out; simp; omega); have h1_ := Blk.grl HB_g10.out G_ (by have := HN_V.out; simp; omega); exact ⟨⟨h0_.2.2 0 _ rfl, h0_.2.2 1 _ rfl, h0_.2.2 2 _ rfl, h0_.2.2 3 _ rfl, h0_.2.2 4 _ rfl, h0_.2.2 5 _ rfl, h0_.2.2 6 _ rfl, h0_.1⟩, ⟨h1_.2.2 0 _ rfl, h1_.2.2 1 _ rfl, h1_.2.2 2 _ rfl, h1_.1⟩⟩)
 refine wp_region_held_drew (S := fun w' => (w'.cell? ⟨g4, 0, none⟩ = some (.slice pa pn pc) ∧ w'.cell? ⟨g4, 1, none⟩ = some (.slice va' vn vc') ∧ w'.cell? ⟨g4, 2, none⟩ = some (.slice fa fn fc) ∧ w'.cell? ⟨g4, 3, none⟩ = some (.slice la ln lc) ∧ w'.cell? ⟨g4, 4, none⟩ = some (.map q) ∧ w'.cell? ⟨g4, 5, none⟩ = some (.slice sa sn sc) ∧ w'.cell? ⟨g4, 6, none⟩ = some (.int .i64 cr) ∧ g4 < w'.heap.size) ∧ (w'.cell? ⟨g10, 0, none⟩ = some (.int .i64 x1) ∧ w'.cell? ⟨g10, 1, none⟩ = some (.int .u32 x2) ∧ w'.cell? ⟨g10, 2, none⟩ = some (.int .u32 x3) ∧ g10 < w'.heap.size)) (by kernel_rfl) (by exact HSt_.out _ (by exact glP)) (fun hHeld => ?_)
 refine tkm 0 (v := ?_) rfl ?_ ?_
 rotate_left 1
 ·intro w hSw
  try dsimp only at hSw
  go_simp
  try with_reducible rfl
 (try simp only [Act.put, pA, pB, pC])
 refine tkm 1 (v := ?_) rfl ?_ ?_
 rotate_left 1
 ·intro w hSw
  try dsimp only at hSw
  go_simp
  try with_reducible rfl
 (try simp only [Act.put, pA, pB, pC])
 refine tkm 2 (v := ?_) rfl ?_ ?_
 rotate_left 1
 ·intro w hSw
  try dsimp only at hSw
  go_simp
  try with_reducible rfl
 (try simp only [Act.put, pA, pB, pC])
 refine take_only 3 (oi := ⟨_, _, _, _, _, _⟩) (by kernel_rfl) rfl (fun K hK => ?_)
 go_simp
 have hOld := hHeld
 clear hHeld
 refine hK.out _ _ (by exact HSt_.out _ (by exact glP)) (fun hHeld => ?_)
 clear hOld hK K
 (try simp only [Act.put, pA, pB, pC])
 refine take_only 4 (oi := ⟨_, _, _, _, _, _⟩) (by kernel_rfl) rfl (fun K hK => ?_)
 go_simp
 have hOld := hHeld
 clear hHeld
 refine hK.out _ _ (by exact HSt_.out _ (by exact glP)) (fun hHeld => ?_)
 clear hOld hK K
 (try simp only [Act.put, pA, pB, pC])
 refine wpAnyH_done (by kernel_rfl) ?_ _
 clear hHeld
 (repeat (first | go_values | go_skip | go_guarded | go_step | go_upon | (simp only [Int.not_lt, Int.not_le] at *; go_simp) | (go_ite <;> go_prune <;> (try go_simp))))
 refine bodyPost_ret (v := .tuple #[.agg #[.slice pa pn pc, .slice va' vn vc', .slice fa fn fc, .slice la ln lc, .map q, .slice sa sn sc, .int .i64 cr], .agg #[.int .i64 x1, .int .u32 x2, .int .u32 x3, .bool true]]) (by simp [results, Tryz.results116, go_sem, b0, b1, b2, b3, b4, b5, b6, bf, bg, d0, d1, d2, d3, df, dg, d_g8_g9, d_g9_g8]) rfl ⟨va', vc', rfl, ?_⟩
 exact me_end (L := [g4, g10, g8, g9]) HP.out HE_V.out HX.out (by have := HN_V.out; simp; omega) HMe.out ((HG_W.out.wide (by simp)).trans ((show GrL [g8, g9] W _ by exact glP).wide (by simp)))
open Go.RowKit Go.Maps
section
variable (pa va fa la sa : Option Addr) (pn pc vn vc fn fc ln lc sn sc : Nat) (q : Option Nat) (cr : Int)
theorem mccheckO_any (op : Int) (hop : op = 1 ∨ op = 3 ∨ op = 4 ∨ op = 7) (t at_ : Int) (ht : 1 ≤ t ∧ t ≤ vn) (hat : 0 ≤ at_ ∧ at_ < pn) (o1 o2 o3 n1 n2 n3 : Int) (w : World) : Calls Tryz.prog 111 #[.agg #[.slice pa pn pc, .slice va vn vc, .slice fa fn fc, .slice la ln lc, .map q, .slice sa sn sc, .int .i64 cr], .int .i64 t, .agg #[.int .i64 op, .int .i64 at_, .int .i64 o1, .int .u32 o2, .int .u32 o3, .int .i64 n1, .int .u32 n2, .int .u32 n3]] w fun e w' => e = .returned (.int .i64 0) ∧ ∃ r, w' = ext w r := by
 have h1 : ¬ t < 1 := by omega
 have h2 : ¬ (vn : Int) < t := by omega
 have h3 : ¬ at_ < 0 := by omega
 have h4 : ¬ (pn : Int) ≤ at_ := by omega
 clear ht hat
 rcases hop with rfl | rfl | rfl | rfl
 all_goals
  go_enter Tryz.func111, Tryz.ntmps111
  go_wp2_with (go_call (mcsize_any pa va fa la sa pn pc vn vc fn fc ln lc sn sc q cr _) as e w' ⟨rfl, r1, rfl⟩)
  go_ret
  exact ⟨rfl, by exact exP⟩
theorem mcchangesO_any (op : Int) (hop : op = 1 ∨ op = 3 ∨ op = 4 ∨ op = 7) (at_ o1 o2 o3 n1 n2 n3 : Int) (w : World) : Calls Tryz.prog 112 #[.agg #[.int .i64 op, .int .i64 at_, .int .i64 o1, .int .u32 o2, .int .u32 o3, .int .i64 n1, .int .u32 n2, .int .u32 n3]] w fun e w' => e = .returned (.bool (op == 3 || op == 4)) ∧ ∃ r, w' = ext w r := by
 rcases hop with rfl | rfl | rfl | rfl
 all_goals
  go_enter Tryz.func112, Tryz.ntmps112
  go_wp2_with fail
  go_ret
  exact ⟨rfl, by exact exP⟩
end
end Go.Proofs.YtiacdohaiidehaaGreatDoor
