/- The machine: write (Swap alone). -/
import Derived.Test.YtiacdohaiidehaaGreatDoorPk13
namespace Go.Proofs.YtiacdohaiidehaaGreatDoor
set_option linter.unusedSimpArgs false
set_option linter.unusedVariables false
open Go.RowKit Go.Maps
set_option maxRecDepth 100000 in
set_option maxHeartbeats 1000000 in
theorem mcwrite_hit {w : World} {P : Nat → Prop} (hP : ∀ b, P b → b < w.heap.size) {pa va fa la : Option Addr} {pn pc vn vc fn fc ln lc : Nat} {m : Me} {nl : Ln} (h : MeR w P (.slice pa pn pc) (.slice va vn vc) m) (hln : LnR w P (.slice fa fn fc) (.slice la ln lc) nl) (sa : Option Addr) (sn sc : Nat) (q : Option Nat) (cr : Int) (t ti : Nat) (ht : t = ti + 1) (f : Int → Nat) (hf : m.vs[ti]? = some f) (hvn : vn ≤ 1000) (hpn : pn ≤ 4096)
 (at_ : Nat) (l : List Mg) (hl : m.pl[at_]? = some l) (x1 x2 x3 x4 : Int) (g : Int → Nat) (hm : l[l.length - 1]? = some ⟨(x1, x2, x3), x4, g⟩) (hi : l.length ≤ 900000) (y1 y2 y3 : Int) (hfn : at_ < fn) (hfm : fn ≤ 4096) (n : Nat) (hn : n = at_ / 8) (ll : List (Int × Wd) × Nat) (hll : nl.logs[n]? = some ll) (hlm : ll.1.length ≤ 900000) (hlo : nl.logs.length ≤ 1000) :
 Calls Tryz.prog 113 #[.agg #[.slice pa pn pc, .slice va vn vc, .slice fa fn fc, .slice la ln lc, .map q, .slice sa sn sc, .int .i64 cr], .int .i64 t, .agg #[.int .i64 6, .int .i64 at_, .int .i64 x1, .int .u32 x2, .int .u32 x3, .int .i64 y1, .int .u32 y2, .int .u32 y3]] w fun e w' => ∃ pa' pc' va' vc' la' lc', e = .returned (.tuple #[.agg #[.slice pa' pn pc', .slice va' vn vc', .slice fa fn fc, .slice la' ln lc', .map q, .slice sa sn sc, .int .i64 cr], .agg #[.int .i64 x1, .int .u32 x2, .int .u32 x3, .bool true]]) ∧ (Ext w w' ∧ MeR w' (fun b => P b ∨ NewB memD w w' b) (.slice pa' pn pc') (.slice va' vn vc') (meSwaps m ti at_ f g l (y1, y2, y3) t)) ∧ (Ext w w' ∧ LnR w' (fun b => P b ∨ NewB lnD w w' b) (.slice fa fn fc) (.slice la' ln lc') (lnStores nl n ll at_ (y1, y2, y3))) := by
 have H := hid h
 have HL := hid hln
 have HP := hid hP
 have HF := hid hf
 have HM := hid hm
 have HT := hid ht
 have HI := hid hi
 have HVn := hid hvn
 have HPn := hid hpn
 have HLl := hid hl
 clear h hP hf hm ht hi hvn hpn hl hln
 have HLo := hid (And.intro (And.intro hfn hfm) (And.intro (And.intro hn hll) (And.intro hlm hlo)))
 clear hfn hfm hn hll hlm hlo
 go_enter Tryz.func113, Tryz.ntmps113
 go_wp2_with fail
 generalize hV_ : World.alloc _ _ = V
 have HE_V := hid (show Ext w V by rw [← hV_]; exact exP)
 have HB_g3 := hid (show Blk V (w.heap.size) [.slice pa pn pc, .slice va vn vc, .slice fa fn fc, .slice la ln lc, .map q, .slice sa sn sc, .int .i64 cr] by rw [← hV_]; exact bkP)
 have HB_g5 := hid (show Blk V (w.heap.size + 1) [.int .i64 6, .int .i64 at_, .int .i64 x1, .int .u32 x2, .int .u32 x3, .int .i64 y1, .int .u32 y2, .int .u32 y3] by rw [← hV_]; exact bkP)
 have HB_g6 := hid (show Blk V (w.heap.size + 1 + 1) [.slice none 0 0, .slice none 0 0, .slice none 0 0, .slice none 0 0, .map none, .slice none 0 0, .int .i64 0] by rw [← hV_]; exact bkP)
 have HB_g7 := hid (show Blk V (w.heap.size + 1 + 1 + 1) [.int .i64 0, .int .u32 0, .int .u32 0, .bool false] by rw [← hV_]; exact bkP)
 have HB_g8 := hid (show Blk V (w.heap.size + 1 + 1 + 1 + 1) [.int .i64 0, .int .u32 0, .int .u32 0, .bool true] by rw [← hV_]; exact bkP)
 clear hV_
 obtain ⟨g8, hg_g8⟩ : ∃ g, g = w.heap.size + 1 + 1 + 1 + 1 := ⟨_, rfl⟩
 simp only [← hg_g8] at HB_g8 ⊢
 obtain ⟨g7, hg_g7⟩ : ∃ g, g = w.heap.size + 1 + 1 + 1 := ⟨_, rfl⟩
 simp only [← hg_g7] at HB_g7 ⊢
 obtain ⟨g6, hg_g6⟩ : ∃ g, g = w.heap.size + 1 + 1 := ⟨_, rfl⟩
 simp only [← hg_g6] at HB_g6 ⊢
 obtain ⟨g5, hg_g5⟩ : ∃ g, g = w.heap.size + 1 := ⟨_, rfl⟩
 simp only [← hg_g5] at HB_g5 ⊢
 obtain ⟨g3, hg_g3⟩ : ∃ g, g = w.heap.size := ⟨_, rfl⟩
 simp only [← hg_g3] at HB_g3 ⊢
 have HN_V := hid (show g3 = w.heap.size ∧ g5 = w.heap.size + 1 ∧ g6 = w.heap.size + 1 + 1 ∧ g7 = w.heap.size + 1 + 1 + 1 ∧ g8 = w.heap.size + 1 + 1 + 1 + 1 ∧ g8 < V.heap.size from ⟨hg_g3, hg_g5, hg_g6, hg_g7, hg_g8, HB_g8.out.1⟩)
 clear hg_g3 hg_g5 hg_g6 hg_g7 hg_g8
 refine (mSwap_hit (P := P) (fun b h => Nat.lt_of_lt_of_le (HP.out b h) HE_V.out.size) (H.out.of HE_V.out) t ti HT.out f HF.out HVn.out (by have := HPn.out; omega) at_ l HLl.out x1 x2 x3 x4 g HM.out HI.out y1 y2 y3).mono ?_
 rintro e w2 ⟨pa', pc', va', vc', rfl, he, hm⟩
 have HX := hid he
 have HMe := hid hm
 have h3 := HB_g3.out.of he
 have h5 := HB_g5.out.of he
 have h8 := HB_g8.out.of he
 clear he hm
 have a0 := (h3).2.2 0 _ rfl
 have a1 := (h3).2.2 1 _ rfl
 have a2 := (h3).2.2 2 _ rfl
 have a3 := (h3).2.2 3 _ rfl
 have a4 := (h3).2.2 4 _ rfl
 have a5 := (h3).2.2 5 _ rfl
 have a6 := (h3).2.2 6 _ rfl
 have af := (h3).2.1
 have ag := (h3).1
 have e0 := (h5).2.2 0 _ rfl
 have e1 := (h5).2.2 1 _ rfl
 have e2 := (h5).2.2 2 _ rfl
 have e3 := (h5).2.2 3 _ rfl
 have e4 := (h5).2.2 4 _ rfl
 have e5 := (h5).2.2 5 _ rfl
 have e6 := (h5).2.2 6 _ rfl
 have e7 := (h5).2.2 7 _ rfl
 have ef := (h5).2.1
 have eg := (h5).1
 have c0 := (h8).2.2 0 _ rfl
 have c1 := (h8).2.2 1 _ rfl
 have c2 := (h8).2.2 2 _ rfl
 have c3 := (h8).2.2 3 _ rfl
 have cf := (h8).2.1
 have cg := (h8).1
 clear h3 h5 h8
 have d_g3_g5 : ¬ g3 = g5 := by have hn_ := HN_V.out; omega
 have d_g3_g6 : ¬ g3 = g6 := by have hn_ := HN_V.out; omega
 have d_g3_g7 : ¬ g3 = g7 := by have hn_ := HN_V.out; omega
 have d_g3_g8 : ¬ g3 = g8 := by have hn_ := HN_V.out; omega
 have d_g5_g3 : ¬ g5 = g3 := by have hn_ := HN_V.out; omega
 have d_g5_g6 : ¬ g5 = g6 := by have hn_ := HN_V.out; omega
 have d_g5_g7 : ¬ g5 = g7 := by have hn_ := HN_V.out; omega
 have d_g5_g8 : ¬ g5 = g8 := by have hn_ := HN_V.out; omega
 have d_g6_g3 : ¬ g6 = g3 := by have hn_ := HN_V.out; omega
 have d_g6_g5 : ¬ g6 = g5 := by have hn_ := HN_V.out; omega
 have d_g6_g7 : ¬ g6 = g7 := by have hn_ := HN_V.out; omega
 have d_g6_g8 : ¬ g6 = g8 := by have hn_ := HN_V.out; omega
 have d_g7_g3 : ¬ g7 = g3 := by have hn_ := HN_V.out; omega
 have d_g7_g5 : ¬ g7 = g5 := by have hn_ := HN_V.out; omega
 have d_g7_g6 : ¬ g7 = g6 := by have hn_ := HN_V.out; omega
 have d_g7_g8 : ¬ g7 = g8 := by have hn_ := HN_V.out; omega
 have d_g8_g3 : ¬ g8 = g3 := by have hn_ := HN_V.out; omega
 have d_g8_g5 : ¬ g8 = g5 := by have hn_ := HN_V.out; omega
 have d_g8_g6 : ¬ g8 = g6 := by have hn_ := HN_V.out; omega
 have d_g8_g7 : ¬ g8 = g7 := by have hn_ := HN_V.out; omega
 go_wp2_with fail
 have hn_ := HN_V.out
 have h_g3 := (HB_g3.out.of HX.out)
 have h_g8 := (HB_g8.out.of HX.out)
 generalize hV_ : World.setCell _ _ _ = W
 have HG_W := hid (show GrL [g3, g8] w2 W by rw [← hV_]; exact glP)
 have hz_g3 := hid (show Blk W g3 [.slice pa' pn pc', .slice va' vn vc', .slice fa fn fc, .slice la ln lc, .map q, .slice sa sn sc, .int .i64 cr] by rw [← hV_]; exact bcP)
 have hz_g8 := hid (show Blk W g8 [.int .i64 x1, .int .u32 x2, .int .u32 x3, .bool true] by rw [← hV_]; exact bcP)
 clear hV_ h_g3 h_g8
 have hz_g5 := hid (Blk.grl (HB_g5.out.of HX.out) HG_W.out (by simp; omega))
 have hz_g6 := hid (Blk.grl (HB_g6.out.of HX.out) HG_W.out (by simp; omega))
 have hz_g7 := hid (Blk.grl (HB_g7.out.of HX.out) HG_W.out (by simp; omega))
 clear HB_g3
 have HB_g3 := hz_g3
 clear hz_g3
 clear HB_g8
 have HB_g8 := hz_g8
 clear hz_g8
 clear HB_g5
 have HB_g5 := hz_g5
 clear hz_g5
 clear HB_g6
 have HB_g6 := hz_g6
 clear hz_g6
 clear HB_g7
 have HB_g7 := hz_g7
 clear hz_g7
 clear hn_
 clear a0 a1 a2 a3 a4 a5 a6 af ag c0 c1 c2 c3 cf cg e0 e1 e2 e3 e4 e5 e6 e7 ef eg
 have HE_W := hid ((HE_V.out.trans HX.out).grl HG_W.out (by have := HN_V.out; simp; omega))
 have HLW := hid (HL.out.of HE_W.out)
 refine (lstore_any (P := P) (fun b h => Nat.lt_of_lt_of_le (HP.out b h) HE_W.out.size) HLW.out q at_ n HLo.out.1.1 HLo.out.1.2 HLo.out.2.1.1 ll HLo.out.2.1.2 HLo.out.2.2.1 HLo.out.2.2.2 y1 y2 y3).mono ?_
 rintro e w3 ⟨la', lc', rfl, he, hm⟩
 have HX3 := hid he
 have HLn := hid hm
 have h3 := HB_g3.out.of he
 clear he hm
 have a0 := (h3).2.2 0 _ rfl
 have a1 := (h3).2.2 1 _ rfl
 have a2 := (h3).2.2 2 _ rfl
 have a3 := (h3).2.2 3 _ rfl
 have a4 := (h3).2.2 4 _ rfl
 have a5 := (h3).2.2 5 _ rfl
 have a6 := (h3).2.2 6 _ rfl
 have af := (h3).2.1
 have ag := (h3).1
 clear h3
 go_upto_region 7 with fail
 have hn_ := HN_V.out
 have h_g3 := (HB_g3.out.of HX3.out)
 generalize hV_ : World.setCell _ _ _ = Y
 have HG_Y := hid (show GrL [g3] w3 Y by rw [← hV_]; exact glP)
 have hz_g3 := hid (show Blk Y g3 [.slice pa' pn pc', .slice va' vn vc', .slice fa fn fc, .slice la' ln lc', .map q, .slice sa sn sc, .int .i64 cr] by rw [← hV_]; exact bcP)
 clear hV_ h_g3
 have hz_g5 := hid (Blk.grl (HB_g5.out.of HX3.out) HG_Y.out (by simp; omega))
 have hz_g6 := hid (Blk.grl (HB_g6.out.of HX3.out) HG_Y.out (by simp; omega))
 have hz_g7 := hid (Blk.grl (HB_g7.out.of HX3.out) HG_Y.out (by simp; omega))
 have hz_g8 := hid (Blk.grl (HB_g8.out.of HX3.out) HG_Y.out (by simp; omega))
 clear HB_g3
 have HB_g3 := hz_g3
 clear hz_g3
 clear HB_g5
 have HB_g5 := hz_g5
 clear hz_g5
 clear HB_g6
 have HB_g6 := hz_g6
 clear hz_g6
 clear HB_g7
 have HB_g7 := hz_g7
 clear hz_g7
 clear HB_g8
 have HB_g8 := hz_g8
 clear hz_g8
 clear hn_
 clear a0 a1 a2 a3 a4 a5 a6 af ag
 have b0 := (HB_g6.out).2.2 0 _ rfl
 have b1 := (HB_g6.out).2.2 1 _ rfl
 have b2 := (HB_g6.out).2.2 2 _ rfl
 have b3 := (HB_g6.out).2.2 3 _ rfl
 have b4 := (HB_g6.out).2.2 4 _ rfl
 have b5 := (HB_g6.out).2.2 5 _ rfl
 have b6 := (HB_g6.out).2.2 6 _ rfl
 have bf := (HB_g6.out).2.1
 have bg := (HB_g6.out).1
 have d0 := (HB_g7.out).2.2 0 _ rfl
 have d1 := (HB_g7.out).2.2 1 _ rfl
 have d2 := (HB_g7.out).2.2 2 _ rfl
 have d3 := (HB_g7.out).2.2 3 _ rfl
 have df := (HB_g7.out).2.1
 have dg := (HB_g7.out).1
 have HSt_ := hid (show ∀ w', GrL [g6, g7] Y w' → (fun w' => (w'.cell? ⟨g3, 0, none⟩ = some (.slice pa' pn pc') ∧ w'.cell? ⟨g3, 1, none⟩ = some (.slice va' vn vc') ∧ w'.cell? ⟨g3, 2, none⟩ = some (.slice fa fn fc) ∧ w'.cell? ⟨g3, 3, none⟩ = some (.slice la' ln lc') ∧ w'.cell? ⟨g3, 4, none⟩ = some (.map q) ∧ w'.cell? ⟨g3, 5, none⟩ = some (.slice sa sn sc) ∧ w'.cell? ⟨g3, 6, none⟩ = some (.int .i64 cr) ∧ g3 < w'.heap.size) ∧ (w'.cell? ⟨g8, 0, none⟩ = some (.int .i64 x1) ∧ w'.cell? ⟨g8, 1, none⟩ = some (.int .u32 x2) ∧ w'.cell? ⟨g8, 2, none⟩ = some (.int .u32 x3) ∧ w'.cell? ⟨g8, 3, none⟩ = some (.bool true) ∧ g8 < w'.heap.size)) w' from fun w' G_ => by have h0_ := Blk.grl HB_g3.out G_ (by have := HN_V.out; simp; omega); have h1_ := Blk.grl HB_g8.out G_ (by have := HN_V.out; simp; omega); exact ⟨⟨h0_.2.2 0 _ rfl, h0_.2.2 1 _ rfl, h0_.2.2 2 _ rfl, h0_.2.2 3 _ rfl, h0_.2.2 4 _ rfl, h0_.2.2 5 _ rfl, h0_.2.2 6 _ rfl, h0_.1⟩, ⟨h1_.2.2 0 _ rfl, h1_.2.2 1 _ rfl, h1_.2.2 2 _ rfl, h1_.2.2 3 _ rfl, h1_.1⟩⟩)
 refine wp_region_held_drew (S := fun w' => (w'.cell? ⟨g3, 0, none⟩ = some (.slice pa' pn pc') ∧ w'.cell? ⟨g3, 1, none⟩ = some (.slice va' vn vc') ∧ w'.cell? ⟨g3, 2, none⟩ = some (.slice fa fn fc) ∧ w'.cell? ⟨g3, 3, none⟩ = some (.slice la' ln lc') ∧ w'.cell? ⟨g3, 4, none⟩ = some (.map q) ∧ w'.cell? ⟨g3, 5, none⟩ = some (.slice sa sn sc) ∧ w'.cell? ⟨g3, 6, none⟩ = some (.int .i64 cr) ∧ g3 < w'.heap.size) ∧ (w'.cell? ⟨g8, 0, none⟩ = some (.int .i64 x1) ∧ w'.cell? ⟨g8, 1, none⟩ = some (.int .u32 x2) ∧ w'.cell? ⟨g8, 2, none⟩ = some (.int .u32 x3) ∧ w'.cell? ⟨g8, 3, none⟩ = some (.bool true) ∧ g8 < w'.heap.size)) (by kernel_rfl) (by exact HSt_.out _ (by exact glP)) (fun hHeld => ?_)
 refine tkm 0 (v := ?_) rfl ?_ ?_
 rotate_left 1
 ·intro w hSw
  try dsimp only at hSw
  go_simp
  try with_reducible rfl
 (try simp only [Act.put, pA, pB, pC])
 refine tkm 1 (v := ?_) rfl ?_ ?_
 rotate_left 1
 ·intro w hSw
  try dsimp only at hSw
  go_simp
  try with_reducible rfl
 (try simp only [Act.put, pA, pB, pC])
 refine take_only 2 (oi := ⟨_, _, _, _, _, _⟩) (by kernel_rfl) rfl (fun K hK => ?_)
 go_simp
 have hOld := hHeld
 clear hHeld
 refine hK.out _ _ (by exact HSt_.out _ (by exact glP)) (fun hHeld => ?_)
 clear hOld hK K
 (try simp only [Act.put, pA, pB, pC])
 refine take_only 3 (oi := ⟨_, _, _, _, _, _⟩) (by kernel_rfl) rfl (fun K hK => ?_)
 go_simp
 have hOld := hHeld
 clear hHeld
 refine hK.out _ _ (by exact HSt_.out _ (by exact glP)) (fun hHeld => ?_)
 clear hOld hK K
 (try simp only [Act.put, pA, pB, pC])
 refine wpAnyH_done (by kernel_rfl) ?_ _
 clear hHeld
 (repeat (first | go_values | go_skip | go_guarded | go_step | go_upon | (simp only [Int.not_lt, Int.not_le] at *; go_simp) | (go_ite <;> go_prune <;> (try go_simp))))
 refine bodyPost_ret (v := .tuple #[.agg #[.slice pa' pn pc', .slice va' vn vc', .slice fa fn fc, .slice la' ln lc', .map q, .slice sa sn sc, .int .i64 cr], .agg #[.int .i64 x1, .int .u32 x2, .int .u32 x3, .bool true]]) (by simp [results, Tryz.results113, go_sem, b0, b1, b2, b3, b4, b5, b6, bf, bg, d0, d1, d2, d3, df, dg, d_g6_g7, d_g7_g6]) rfl ⟨pa', pc', va', vc', la', lc', rfl, ?_, ?_⟩
 ·exact me_end (L := [g3, g8, g6, g7]) HP.out HE_V.out HX.out (by have := HN_V.out; simp; omega) HMe.out ((HG_W.out.wide (by simp)).trans (((GrL.of_ext HX3.out).trans (HG_Y.out.wide (by simp))).trans ((show GrL [g6, g7] Y _ by exact glP).wide (by simp))))
 ·exact ln_end (L := [g3, g8, g6, g7]) HP.out HE_W.out HX3.out (by have := HN_V.out; have := HB_g3.out.1; have := HX.out.size; have := HG_W.out.size; simp; omega) HLn.out ((HG_Y.out.wide (by simp)).trans ((show GrL [g6, g7] Y _ by exact glP).wide (by simp)))
set_option maxRecDepth 100000 in
set_option maxHeartbeats 1000000 in
theorem mcwrite_miss {w : World} {P : Nat → Prop} (hP : ∀ b, P b → b < w.heap.size) {pa va fa la : Option Addr} {pn pc vn vc fn fc ln lc : Nat} {m : Me} (h : MeR w P (.slice pa pn pc) (.slice va vn vc) m) (sa : Option Addr) (sn sc : Nat) (q : Option Nat) (cr : Int) (t ti : Nat) (ht : t = ti + 1) (f : Int → Nat) (hf : m.vs[ti]? = some f) (hvn : vn ≤ 1000) (hpn : pn ≤ 4096)
 (at_ : Nat) (l : List Mg) (hl : m.pl[at_]? = some l) (x1 x2 x3 x4 : Int) (g : Int → Nat) (hm : l[l.length - 1]? = some ⟨(x1, x2, x3), x4, g⟩) (hi : l.length ≤ 900000) (o1 o2 o3 y1 y2 y3 : Int) (hne : ¬ (x1 = o1 ∧ x2 = o2 ∧ x3 = o3)) :
 Calls Tryz.prog 113 #[.agg #[.slice pa pn pc, .slice va vn vc, .slice fa fn fc, .slice la ln lc, .map q, .slice sa sn sc, .int .i64 cr], .int .i64 t, .agg #[.int .i64 6, .int .i64 at_, .int .i64 o1, .int .u32 o2, .int .u32 o3, .int .i64 y1, .int .u32 y2, .int .u32 y3]] w fun e w' => ∃ va' vc', e = .returned (.tuple #[.agg #[.slice pa pn pc, .slice va' vn vc', .slice fa fn fc, .slice la ln lc, .map q, .slice sa sn sc, .int .i64 cr], .agg #[.int .i64 x1, .int .u32 x2, .int .u32 x3, .bool false]]) ∧ (Ext w w' ∧ MeR w' (fun b => P b ∨ NewB memD w w' b) (.slice pa pn pc) (.slice va' vn vc') (meFinds m ti at_ (l.length - 1) true f g)) := by
 have H := hid h
 have HP := hid hP
 have HF := hid hf
 have HM := hid hm
 have HT := hid ht
 have HI := hid hi
 have HVn := hid hvn
 have HPn := hid hpn
 have HLl := hid hl
 clear h hP hf hm ht hi hvn hpn hl
 have HNe := hid hne
 clear hne
 go_enter Tryz.func113, Tryz.ntmps113
 go_wp2_with fail
 generalize hV_ : World.alloc _ _ = V
 have HE_V := hid (show Ext w V by rw [← hV_]; exact exP)
 have HB_g3 := hid (show Blk V (w.heap.size) [.slice pa pn pc, .slice va vn vc, .slice fa fn fc, .slice la ln lc, .map q, .slice sa sn sc, .int .i64 cr] by rw [← hV_]; exact bkP)
 have HB_g5 := hid (show Blk V (w.heap.size + 1) [.int .i64 6, .int .i64 at_, .int .i64 o1, .int .u32 o2, .int .u32 o3, .int .i64 y1, .int .u32 y2, .int .u32 y3] by rw [← hV_]; exact bkP)
 have HB_g6 := hid (show Blk V (w.heap.size + 1 + 1) [.slice none 0 0, .slice none 0 0, .slice none 0 0, .slice none 0 0, .map none, .slice none 0 0, .int .i64 0] by rw [← hV_]; exact bkP)
 have HB_g7 := hid (show Blk V (w.heap.size + 1 + 1 + 1) [.int .i64 0, .int .u32 0, .int .u32 0, .bool false] by rw [← hV_]; exact bkP)
 have HB_g8 := hid (show Blk V (w.heap.size + 1 + 1 + 1 + 1) [.int .i64 0, .int .u32 0, .int .u32 0, .bool true] by rw [← hV_]; exact bkP)
 clear hV_
 obtain ⟨g8, hg_g8⟩ : ∃ g, g = w.heap.size + 1 + 1 + 1 + 1 := ⟨_, rfl⟩
 simp only [← hg_g8] at HB_g8 ⊢
 obtain ⟨g7, hg_g7⟩ : ∃ g, g = w.heap.size + 1 + 1 + 1 := ⟨_, rfl⟩
 simp only [← hg_g7] at HB_g7 ⊢
 obtain ⟨g6, hg_g6⟩ : ∃ g, g = w.heap.size + 1 + 1 := ⟨_, rfl⟩
 simp only [← hg_g6] at HB_g6 ⊢
 obtain ⟨g5, hg_g5⟩ : ∃ g, g = w.heap.size + 1 := ⟨_, rfl⟩
 simp only [← hg_g5] at HB_g5 ⊢
 obtain ⟨g3, hg_g3⟩ : ∃ g, g = w.heap.size := ⟨_, rfl⟩
 simp only [← hg_g3] at HB_g3 ⊢
 have HN_V := hid (show g3 = w.heap.size ∧ g5 = w.heap.size + 1 ∧ g6 = w.heap.size + 1 + 1 ∧ g7 = w.heap.size + 1 + 1 + 1 ∧ g8 = w.heap.size + 1 + 1 + 1 + 1 ∧ g8 < V.heap.size from ⟨hg_g3, hg_g5, hg_g6, hg_g7, hg_g8, HB_g8.out.1⟩)
 clear hg_g3 hg_g5 hg_g6 hg_g7 hg_g8
 refine (mSwap_miss (P := P) (fun b h => Nat.lt_of_lt_of_le (HP.out b h) HE_V.out.size) (H.out.of HE_V.out) t ti HT.out f HF.out HVn.out (by have := HPn.out; omega) at_ l HLl.out x1 x2 x3 x4 g HM.out HI.out o1 o2 o3 y1 y2 y3 HNe.out).mono ?_
 rintro e w2 ⟨va', vc', rfl, he, hm⟩
 have HX := hid he
 have HMe := hid hm
 have h3 := HB_g3.out.of he
 have h5 := HB_g5.out.of he
 have h8 := HB_g8.out.of he
 clear he hm
 have a0 := (h3).2.2 0 _ rfl
 have a1 := (h3).2.2 1 _ rfl
 have a2 := (h3).2.2 2 _ rfl
 have a3 := (h3).2.2 3 _ rfl
 have a4 := (h3).2.2 4 _ rfl
 have a5 := (h3).2.2 5 _ rfl
 have a6 := (h3).2.2 6 _ rfl
 have af := (h3).2.1
 have ag := (h3).1
 have e0 := (h5).2.2 0 _ rfl
 have e1 := (h5).2.2 1 _ rfl
 have e2 := (h5).2.2 2 _ rfl
 have e3 := (h5).2.2 3 _ rfl
 have e4 := (h5).2.2 4 _ rfl
 have e5 := (h5).2.2 5 _ rfl
 have e6 := (h5).2.2 6 _ rfl
 have e7 := (h5).2.2 7 _ rfl
 have ef := (h5).2.1
 have eg := (h5).1
 have c0 := (h8).2.2 0 _ rfl
 have c1 := (h8).2.2 1 _ rfl
 have c2 := (h8).2.2 2 _ rfl
 have c3 := (h8).2.2 3 _ rfl
 have cf := (h8).2.1
 have cg := (h8).1
 clear h3 h5 h8
 have d_g3_g5 : ¬ g3 = g5 := by have hn_ := HN_V.out; omega
 have d_g3_g6 : ¬ g3 = g6 := by have hn_ := HN_V.out; omega
 have d_g3_g7 : ¬ g3 = g7 := by have hn_ := HN_V.out; omega
 have d_g3_g8 : ¬ g3 = g8 := by have hn_ := HN_V.out; omega
 have d_g5_g3 : ¬ g5 = g3 := by have hn_ := HN_V.out; omega
 have d_g5_g6 : ¬ g5 = g6 := by have hn_ := HN_V.out; omega
 have d_g5_g7 : ¬ g5 = g7 := by have hn_ := HN_V.out; omega
 have d_g5_g8 : ¬ g5 = g8 := by have hn_ := HN_V.out; omega
 have d_g6_g3 : ¬ g6 = g3 := by have hn_ := HN_V.out; omega
 have d_g6_g5 : ¬ g6 = g5 := by have hn_ := HN_V.out; omega
 have d_g6_g7 : ¬ g6 = g7 := by have hn_ := HN_V.out; omega
 have d_g6_g8 : ¬ g6 = g8 := by have hn_ := HN_V.out; omega
 have d_g7_g3 : ¬ g7 = g3 := by have hn_ := HN_V.out; omega
 have d_g7_g5 : ¬ g7 = g5 := by have hn_ := HN_V.out; omega
 have d_g7_g6 : ¬ g7 = g6 := by have hn_ := HN_V.out; omega
 have d_g7_g8 : ¬ g7 = g8 := by have hn_ := HN_V.out; omega
 have d_g8_g3 : ¬ g8 = g3 := by have hn_ := HN_V.out; omega
 have d_g8_g5 : ¬ g8 = g5 := by have hn_ := HN_V.out; omega
 have d_g8_g6 : ¬ g8 = g6 := by have hn_ := HN_V.out; omega
 have d_g8_g7 : ¬ g8 = g7 := by have hn_ := HN_V.out; omega
 go_upto_region 7 with fail
 have hn_ := HN_V.out
 have h_g3 := (HB_g3.out.of HX.out)
 have h_g8 := (HB_g8.out.of HX.out)
 generalize hV_ : World.setCell _ _ _ = W
 have HG_W := hid (show GrL [g3, g8] w2 W by rw [← hV_]; exact glP)
 have hz_g3 := hid (show Blk W g3 [.slice pa pn pc, .slice va' vn vc', .slice fa fn fc, .slice la ln lc, .map q, .slice sa sn sc, .int .i64 cr] by rw [← hV_]; exact bcP)
 have hz_g8 := hid (show Blk W g8 [.int .i64 x1, .int .u32 x2, .int .u32 x3, .bool false] by rw [← hV_]; exact bcP)
 clear hV_ h_g3 h_g8
 have hz_g5 := hid (Blk.grl (HB_g5.out.of HX.out) HG_W.out (by simp; omega))
 have hz_g6 := hid (Blk.grl (HB_g6.out.of HX.out) HG_W.out (by simp; omega))
 have hz_g7 := hid (Blk.grl (HB_g7.out.of HX.out) HG_W.out (by simp; omega))
 clear HB_g3
 have HB_g3 := hz_g3
 clear hz_g3
 clear HB_g8
 have HB_g8 := hz_g8
 clear hz_g8
 clear HB_g5
 have HB_g5 := hz_g5
 clear hz_g5
 clear HB_g6
 have HB_g6 := hz_g6
 clear hz_g6
 clear HB_g7
 have HB_g7 := hz_g7
 clear hz_g7
 clear hn_
 clear a0 a1 a2 a3 a4 a5 a6 af ag c0 c1 c2 c3 cf cg e0 e1 e2 e3 e4 e5 e6 e7 ef eg
 have b0 := (HB_g6.out).2.2 0 _ rfl
 have b1 := (HB_g6.out).2.2 1 _ rfl
 have b2 := (HB_g6.out).2.2 2 _ rfl
 have b3 := (HB_g6.out).2.2 3 _ rfl
 have b4 := (HB_g6.out).2.2 4 _ rfl
 have b5 := (HB_g6.out).2.2 5 _ rfl
 have b6 := (HB_g6.out).2.2 6 _ rfl
 have bf := (HB_g6.out).2.1
 have bg := (HB_g6.out).1
 have d0 := (HB_g7.out).2.2 0 _ rfl
 have d1 := (HB_g7.out).2.2 1 _ rfl
 have d2 := (HB_g7.out).2.2 2 _ rfl
 have d3 := (HB_g7.out).2.2 3 _ rfl
 have df := (HB_g7.out).2.1
 have dg := (HB_g7.out).1
 have HSt_ := hid (show ∀ w', GrL [g6, g7] W w' → (fun w' => (w'.cell? ⟨g3, 0, none⟩ = some (.slice pa pn pc) ∧ w'.cell? ⟨g3, 1, none⟩ = some (.slice va' vn vc') ∧ w'.cell? ⟨g3, 2, none⟩ = some (.slice fa fn fc) ∧ w'.cell? ⟨g3, 3, none⟩ = some (.slice la ln lc) ∧ w'.cell? ⟨g3, 4, none⟩ = some (.map q) ∧ w'.cell? ⟨g3, 5, none⟩ = some (.slice sa sn sc) ∧ w'.cell? ⟨g3, 6, none⟩ = some (.int .i64 cr) ∧ g3 < w'.heap.size) ∧ (w'.cell? ⟨g8, 0, none⟩ = some (.int .i64 x1) ∧ w'.cell? ⟨g8, 1, none⟩ = some (.int .u32 x2) ∧ w'.cell? ⟨g8, 2, none⟩ = some (.int .u32 x3) ∧ w'.cell? ⟨g8, 3, none⟩ = some (.bool false) ∧ g8 < w'.heap.size)) w' from fun w' G_ => by have h0_ := Blk.grl HB_g3.out G_ (by have := HN_V.out; simp; omega); have h1_ := Blk.grl HB_g8.out G_ (by have := HN_V.out; simp; omega); exact ⟨⟨h0_.2.2 0 _ rfl, h0_.2.2 1 _ rfl, h0_.2.2 2 _ rfl, h0_.2.2 3 _ rfl, h0_.2.2 4 _ rfl, h0_.2.2 5 _ rfl, h0_.2.2 6 _ rfl, h0_.1⟩, ⟨h1_.2.2 0 _ rfl, h1_.2.2 1 _ rfl, h1_.2.2 2 _ rfl, h1_.2.2 3 _ rfl, h1_.1⟩⟩)
 refine wp_region_held_drew (S := fun w' => (w'.cell? ⟨g3, 0, none⟩ = some (.slice pa pn pc) ∧ w'.cell? ⟨g3, 1, none⟩ = some (.slice va' vn vc') ∧ w'.cell? ⟨g3, 2, none⟩ = some (.slice fa fn fc) ∧ w'.cell? ⟨g3, 3, none⟩ = some (.slice la ln lc) ∧ w'.cell? ⟨g3, 4, none⟩ = some (.map q) ∧ w'.cell? ⟨g3, 5, none⟩ = some (.slice sa sn sc) ∧ w'.cell? ⟨g3, 6, none⟩ = some (.int .i64 cr) ∧ g3 < w'.heap.size) ∧ (w'.cell? ⟨g8, 0, none⟩ = some (.int .i64 x1) ∧ w'.cell? ⟨g8, 1, none⟩ = some (.int .u32 x2) ∧ w'.cell? ⟨g8, 2, none⟩ = some (.int .u32 x3) ∧ w'.cell? ⟨g8, 3, none⟩ = some (.bool false) ∧ g8 < w'.heap.size)) (by kernel_rfl) (by exact HSt_.out _ (by exact glP)) (fun hHeld => ?_)
 refine tkm 0 (v := ?_) rfl ?_ ?_
 rotate_left 1
 ·intro w hSw
  try dsimp only at hSw
  go_simp
  try with_reducible rfl
 (try simp only [Act.put, pA, pB, pC])
 refine tkm 1 (v := ?_) rfl ?_ ?_
 rotate_left 1
 ·intro w hSw
  try dsimp only at hSw
  go_simp
  try with_reducible rfl
 (try simp only [Act.put, pA, pB, pC])
 refine take_only 2 (oi := ⟨_, _, _, _, _, _⟩) (by kernel_rfl) rfl (fun K hK => ?_)
 go_simp
 have hOld := hHeld
 clear hHeld
 refine hK.out _ _ (by exact HSt_.out _ (by exact glP)) (fun hHeld => ?_)
 clear hOld hK K
 (try simp only [Act.put, pA, pB, pC])
 refine take_only 3 (oi := ⟨_, _, _, _, _, _⟩) (by kernel_rfl) rfl (fun K hK => ?_)
 go_simp
 have hOld := hHeld
 clear hHeld
 refine hK.out _ _ (by exact HSt_.out _ (by exact glP)) (fun hHeld => ?_)
 clear hOld hK K
 (try simp only [Act.put, pA, pB, pC])
 refine wpAnyH_done (by kernel_rfl) ?_ _
 clear hHeld
 (repeat (first | go_values | go_skip | go_guarded | go_step | go_upon | (simp only [Int.not_lt, Int.not_le] at *; go_simp) | (go_ite <;> go_prune <;> (try go_simp))))
 refine bodyPost_ret (v := .tuple #[.agg #[.slice pa pn pc, .slice va' vn vc', .slice fa fn fc, .slice la ln lc, .map q, .slice sa sn sc, .int .i64 cr], .agg #[.int .i64 x1, .int .u32 x2, .int .u32 x3, .bool false]]) (by simp [results, Tryz.results113, go_sem, b0, b1, b2, b3, b4, b5, b6, bf, bg, d0, d1, d2, d3, df, dg, d_g6_g7, d_g7_g6]) rfl ⟨va', vc', rfl, ?_⟩
 exact me_end (L := [g3, g8, g6, g7]) HP.out HE_V.out HX.out (by have := HN_V.out; simp; omega) HMe.out ((HG_W.out.wide (by simp)).trans ((show GrL [g6, g7] W _ by exact glP).wide (by simp)))
end Go.Proofs.YtiacdohaiidehaaGreatDoor
