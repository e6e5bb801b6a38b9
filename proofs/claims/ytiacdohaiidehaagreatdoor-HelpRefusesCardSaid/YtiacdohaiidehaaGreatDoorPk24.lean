/- machine's Do at a Load. A machine's good state, for all locations; what Load (of choice 0), Look and Swap do. One thread alone on a good machine, at choice 0: the plain run, and the steps of the world that it is. Alone on a good machine. -/
import Derived.Test.YtiacdohaiidehaaGreatDoorPk23
namespace Go.Proofs.YtiacdohaiidehaaGreatDoor
set_option linter.unusedSimpArgs false
set_option linter.unusedVariables false
open Go.RowKit
set_option maxRecDepth 100000 in
set_option maxHeartbeats 1000000 in
theorem mcdo_load {w : World} {P : Nat → Prop} (hP : ∀ b, P b → b < w.heap.size) {pa va fa la sa : Option Addr} {pn pc vn vc fn fc ln lc sn sc : Nat} {m : Mc} (h : McR w P (.slice pa pn pc) (.slice va vn vc) (.slice fa fn fc) (.slice la ln lc) (.slice sa sn sc) m) (q : Option Nat) (cr : Int) (t ti : Nat) (ht : t = ti + 1) (f : Int → Nat) (hf : m.me.vs[ti]? = some f) (hvn : vn ≤ 1000) (hpn : pn ≤ 4096) (htv : t ≤ vn) (s : Int) (hs : m.st[ti]? = some s) (hs0 : 0 ≤ s ∧ s ≤ 1000000) (hsn : m.st.length ≤ 1000)
 (at_ : Nat) (hap : at_ < pn) (l : List Mg) (hl : m.me.pl[at_]? = some l) (x1 x2 x3 x4 : Int) (g : Int → Nat) (i : Nat) (hm : l[i]? = some ⟨(x1, x2, x3), x4, g⟩) (ch : Int) (hch : i = chooseN l.length (f at_) ch) (hi : l.length ≤ 900000) (o1 o2 o3 y1 y2 y3 : Int) :
 Calls Tryz.prog 100 #[.agg #[.slice pa pn pc, .slice va vn vc, .slice fa fn fc, .slice la ln lc, .map q, .slice sa sn sc, .int .i64 cr], .int .i64 t, .agg #[.int .i64 1, .int .i64 at_, .int .i64 o1, .int .u32 o2, .int .u32 o3, .int .i64 y1, .int .u32 y2, .int .u32 y3], .int .i64 ch] w fun e w' => ∃ va' vc' sa' sc', e = .returned (.tuple #[.agg #[.slice pa pn pc, .slice va' vn vc', .slice fa fn fc, .slice la ln lc, .map q, .slice sa' sn sc', .int .i64 cr], .agg #[.int .i64 x1, .int .u32 x2, .int .u32 x3, .bool true], .int .i64 0]) ∧ (Ext w w' ∧ McR w' (fun b => P b ∨ NewB mcD w w' b) (.slice pa pn pc) (.slice va' vn vc') (.slice fa fn fc) (.slice la ln lc) (.slice sa' sn sc') ⟨meFinds m.me ti at_ i false f g, m.ln, m.st.set ti (s + 1)⟩) := by
 have H := hid h
 have HP := hid hP
 have HF := hid hf
 have HM := hid hm
 have HT := hid ht
 have HI := hid hi
 have HVn := hid (And.intro hvn hpn)
 have HLl := hid hl
 have HCh := hid hch
 clear hch
 have HS := hid (And.intro hs (And.intro hs0 hsn))
 have HTv := hid (show 1 ≤ (t : Int) ∧ (t : Int) ≤ (vn : Int) by omega)
 have HAt := hid (show 0 ≤ (at_ : Int) ∧ (at_ : Int) < (pn : Int) by omega)
 have hsl : sn = m.st.length := by obtain ⟨a', c', hv, _⟩ := h.2.2.1; simp only [Value.slice.injEq] at hv; exact hv.2.1
 have htl : ti < m.st.length := (List.getElem?_eq_some_iff.1 hs).1
 have HSl := hid (And.intro hsl htl)
 have HW1 := hid (show wrap64 ((t : Int) - 1) = (ti : Int) by rw [show (t : Int) - 1 = (ti : Int) by omega]; exact IntWalk.wrap64_in _ (by omega))
 have HW2 := hid (show wrap64 (s + 1) = s + 1 from IntWalk.wrap64_in _ (by omega))
 have HTs := hid (show (ti : Int) < (sn : Int) by omega)
 clear h hP hf hm ht hi hvn hpn hl hs hs0 hsn htv hap hsl htl
 go_enter Tryz.func100, Tryz.ntmps100
 go_wp2_with fail
 generalize hV_ : World.alloc _ _ = V
 have HE_V := hid (show Ext w V by rw [← hV_]; exact exP)
 have HB_g4 := hid (show Blk V (w.heap.size) [.slice pa pn pc, .slice va vn vc, .slice fa fn fc, .slice la ln lc, .map q, .slice sa sn sc, .int .i64 cr] by rw [← hV_]; exact bkP)
 have HB_g6 := hid (show Blk V (w.heap.size + 1) [.int .i64 1, .int .i64 at_, .int .i64 o1, .int .u32 o2, .int .u32 o3, .int .i64 y1, .int .u32 y2, .int .u32 y3] by rw [← hV_]; exact bkP)
 have HB_g8 := hid (show Blk V (w.heap.size + 1 + 1) [.slice none 0 0, .slice none 0 0, .slice none 0 0, .slice none 0 0, .map none, .slice none 0 0, .int .i64 0] by rw [← hV_]; exact bkP)
 have HB_g9 := hid (show Blk V (w.heap.size + 1 + 1 + 1) [.int .i64 0, .int .u32 0, .int .u32 0, .bool false] by rw [← hV_]; exact bkP)
 clear hV_
 obtain ⟨g9, hg_g9⟩ : ∃ g, g = w.heap.size + 1 + 1 + 1 := ⟨_, rfl⟩
 simp only [← hg_g9] at HB_g9 ⊢
 obtain ⟨g8, hg_g8⟩ : ∃ g, g = w.heap.size + 1 + 1 := ⟨_, rfl⟩
 simp only [← hg_g8] at HB_g8 ⊢
 obtain ⟨g6, hg_g6⟩ : ∃ g, g = w.heap.size + 1 := ⟨_, rfl⟩
 simp only [← hg_g6] at HB_g6 ⊢
 obtain ⟨g4, hg_g4⟩ : ∃ g, g = w.heap.size := ⟨_, rfl⟩
 simp only [← hg_g4] at HB_g4 ⊢
 have HN_V := hid (show g4 = w.heap.size ∧ g6 = w.heap.size + 1 ∧ g8 = w.heap.size + 1 + 1 ∧ g9 = w.heap.size + 1 + 1 + 1 ∧ g9 < V.heap.size from ⟨hg_g4, hg_g6, hg_g8, hg_g9, HB_g9.out.1⟩)
 clear hg_g4 hg_g6 hg_g8 hg_g9
 refine (mccheckO_any pa va fa la sa pn pc vn vc fn fc ln lc sn sc q cr 1 (.inl rfl) t at_ HTv.out HAt.out o1 o2 o3 y1 y2 y3 V).mono ?_
 rintro e V1 ⟨rfl, he⟩
 have HE_1 := hid (show Ext V V1 from he)
 have h6 := HB_g6.out.of he
 clear he
 have e0 := (h6).2.2 0 _ rfl
 have e1 := (h6).2.2 1 _ rfl
 have e2 := (h6).2.2 2 _ rfl
 have e3 := (h6).2.2 3 _ rfl
 have e4 := (h6).2.2 4 _ rfl
 have e5 := (h6).2.2 5 _ rfl
 have e6 := (h6).2.2 6 _ rfl
 have e7 := (h6).2.2 7 _ rfl
 have ef := (h6).2.1
 have eg := (h6).1
 clear h6
 go_wp2_with fail
 generalize hV_ : World.alloc _ _ = V2
 have HE_V2 := hid (show Ext V1 V2 by rw [← hV_]; exact exP)
 have HB_g12 := hid (show Blk V2 (V1.heap.size) [.int .i64 0, .int .u32 0, .int .u32 0, .bool true] by rw [← hV_]; exact bkP)
 clear hV_
 obtain ⟨g12, hg_g12⟩ : ∃ g, g = V1.heap.size := ⟨_, rfl⟩
 simp only [← hg_g12] at HB_g12 ⊢
 have HN_V2 := hid (show g12 = V1.heap.size ∧ g12 < V2.heap.size from ⟨hg_g12, HB_g12.out.1⟩)
 clear hg_g12
 clear e0 e1 e2 e3 e4 e5 e6 e7 ef eg
 refine (mcchangesO_any 1 (.inl rfl) at_ o1 o2 o3 y1 y2 y3 V2).mono ?_
 rintro e V3 ⟨rfl, he⟩
 have HE_3 := hid (((HE_V.out.trans HE_1.out).trans HE_V2.out).trans (show Ext V2 V3 from he))
 have HN := hid (show (w.heap.size ≤ g4 ∧ g4 < g6 ∧ g6 < g8 ∧ g8 < g9 ∧ g9 < g12) ∧ g12 < V3.heap.size by have h1 := HN_V.out; have h2 := HN_V2.out; have h3 := HE_1.out.size; have h4 := (show Ext V2 V3 from he).size; omega)
 have HE_13 := hid ((HE_1.out.trans HE_V2.out).trans (show Ext V2 V3 from he))
 have h4 := HB_g4.out.of HE_13.out
 have h6 := HB_g6.out.of HE_13.out
 have h8 := HB_g8.out.of HE_13.out
 have h9 := HB_g9.out.of HE_13.out
 have h12 := HB_g12.out.of he
 clear HB_g4 HB_g6 HB_g8 HB_g9 HB_g12 HN_V HN_V2 HE_1 HE_V2 HE_V HE_13 he
 have HB_g4 := hid h4
 have HB_g6 := hid h6
 have HB_g8 := hid h8
 have HB_g9 := hid h9
 have HB_g12 := hid h12
 have a0 := (h4).2.2 0 _ rfl
 have a1 := (h4).2.2 1 _ rfl
 have a2 := (h4).2.2 2 _ rfl
 have a3 := (h4).2.2 3 _ rfl
 have a4 := (h4).2.2 4 _ rfl
 have a5 := (h4).2.2 5 _ rfl
 have a6 := (h4).2.2 6 _ rfl
 have af := (h4).2.1
 have ag := (h4).1
 have e0 := (h6).2.2 0 _ rfl
 have e1 := (h6).2.2 1 _ rfl
 have e2 := (h6).2.2 2 _ rfl
 have e3 := (h6).2.2 3 _ rfl
 have e4 := (h6).2.2 4 _ rfl
 have e5 := (h6).2.2 5 _ rfl
 have e6 := (h6).2.2 6 _ rfl
 have e7 := (h6).2.2 7 _ rfl
 have ef := (h6).2.1
 have eg := (h6).1
 clear h4 h6 h8 h9 h12
 go_wp2_with fail
 refine (mcreadL_any (P := P) (fun b h => Nat.lt_of_lt_of_le (HP.out b h) HE_3.out.size) (H.out.1.of HE_3.out) fa la sa fn fc ln lc sn sc q cr t ti HT.out f HF.out HVn.out.1 (by have := HVn.out; omega) at_ l HLl.out x1 x2 x3 x4 g i HM.out ch HCh.out (by have := HI.out; omega) o1 o2 o3 y1 y2 y3).mono ?_
 rintro e w2 ⟨va', vc', rfl, he, hm⟩
 have HX := hid he
 have HMe := hid hm
 clear he hm a0 a1 a2 a3 a4 a5 a6 af ag e0 e1 e2 e3 e4 e5 e6 e7 ef eg
 have h4 := HB_g4.out.of HX.out
 have h12 := HB_g12.out.of HX.out
 have a0 := (h4).2.2 0 _ rfl
 have a1 := (h4).2.2 1 _ rfl
 have a2 := (h4).2.2 2 _ rfl
 have a3 := (h4).2.2 3 _ rfl
 have a4 := (h4).2.2 4 _ rfl
 have a5 := (h4).2.2 5 _ rfl
 have a6 := (h4).2.2 6 _ rfl
 have af := (h4).2.1
 have ag := (h4).1
 have c0 := (h12).2.2 0 _ rfl
 have c1 := (h12).2.2 1 _ rfl
 have c2 := (h12).2.2 2 _ rfl
 have c3 := (h12).2.2 3 _ rfl
 have cf := (h12).2.1
 have cg := (h12).1
 clear h4 h12
 have d_g4_g8 : ¬ g4 = g8 := by have hn_ := HN.out; omega
 have d_g4_g9 : ¬ g4 = g9 := by have hn_ := HN.out; omega
 have d_g4_g12 : ¬ g4 = g12 := by have hn_ := HN.out; omega
 have d_g8_g4 : ¬ g8 = g4 := by have hn_ := HN.out; omega
 have d_g8_g9 : ¬ g8 = g9 := by have hn_ := HN.out; omega
 have d_g8_g12 : ¬ g8 = g12 := by have hn_ := HN.out; omega
 have d_g9_g4 : ¬ g9 = g4 := by have hn_ := HN.out; omega
 have d_g9_g8 : ¬ g9 = g8 := by have hn_ := HN.out; omega
 have d_g9_g12 : ¬ g9 = g12 := by have hn_ := HN.out; omega
 have d_g12_g4 : ¬ g12 = g4 := by have hn_ := HN.out; omega
 have d_g12_g8 : ¬ g12 = g8 := by have hn_ := HN.out; omega
 have d_g12_g9 : ¬ g12 = g9 := by have hn_ := HN.out; omega
 go_wp2_with fail
 have hn_ := HN.out
 have h_g4 := (HB_g4.out.of HX.out)
 have h_g12 := (HB_g12.out.of HX.out)
 generalize hV_ : World.setCell _ _ _ = W
 have HG_W := hid (show GrL [g4, g12] w2 W by rw [← hV_]; exact glP)
 have hz_g4 := hid (show Blk W g4 [.slice pa pn pc, .slice va' vn vc', .slice fa fn fc, .slice la ln lc, .map q, .slice sa sn sc, .int .i64 cr] by rw [← hV_]; exact bcP)
 have hz_g12 := hid (show Blk W g12 [.int .i64 x1, .int .u32 x2, .int .u32 x3, .bool true] by rw [← hV_]; exact bcP)
 clear hV_ h_g4 h_g12
 have hz_g8 := hid (Blk.grl (HB_g8.out.of HX.out) HG_W.out (by simp; omega))
 have hz_g9 := hid (Blk.grl (HB_g9.out.of HX.out) HG_W.out (by simp; omega))
 clear HB_g4
 have HB_g4 := hz_g4
 clear hz_g4
 clear HB_g12
 have HB_g12 := hz_g12
 clear hz_g12
 clear HB_g8
 have HB_g8 := hz_g8
 clear hz_g8
 clear HB_g9
 have HB_g9 := hz_g9
 clear hz_g9
 clear hn_
 clear a0 a1 a2 a3 a4 a5 a6 af ag c0 c1 c2 c3 cf cg
 have HE_W := hid ((HE_3.out.trans HX.out).grl HG_W.out (by have := HN.out; simp; omega))
 refine (it_clone m.st (.slice sa sn sc) W (by have := HS.out.2.2; omega) (H.out.2.2.1.of itvE_len HE_W.out)).mono ?_
 rintro e w3 ⟨v', rfl, he, hv⟩
 have HX3 := hid (show Ext W w3 from he)
 have hop := Own.openT hv (by have := HSl.out; omega)
 rw [← HSl.out.1] at hop
 obtain ⟨gl, sc', rfl, hb1, hb2⟩ := hop
 have HO := hid hv
 have HGl := hid (And.intro hb1 hb2)
 obtain ⟨hx_, b', o', he', hb, hc⟩ := (Sl.of_own itvE_len hv).at HS.out.1
 obtain ⟨rfl, rfl⟩ : gl = b' ∧ 0 = o' := by simpa using he'
 have k0 := hc 0 (by omega)
 have kf : ∀ i, w3.frozen? ⟨gl, i, none⟩ = false := by
  obtain ⟨_, cs, h⟩ := own_typed hv rfl
  exact (blk_heap h).2.1
 have kg := hb
 simp [itvE] at k0
 have h4 := HB_g4.out.of HX3.out
 have hgw := HB_g12.out.1
 have hgw2 := HB_g9.out.1
 have hn := HN.out
 have d_gl_g4 : ¬ gl = g4 := by omega
 have d_g4_gl : ¬ g4 = gl := by omega
 have d_gl_g8 : ¬ gl = g8 := by omega
 have d_gl_g9 : ¬ gl = g9 := by omega
 have d_gl_g12 : ¬ gl = g12 := by omega
 have HNl := hid (show (w.heap.size ≤ g4 ∧ g4 < g6 ∧ g6 < g8 ∧ g8 < g9 ∧ g9 < g12) ∧ g12 < gl ∧ g12 < V3.heap.size ∧ w2.heap.size ≤ gl by have := HG_W.out.size; omega)
 clear he hv hb1 hb2 hc he' hb hgw hgw2 hn hx_
 have a0 := (h4).2.2 0 _ rfl
 have a1 := (h4).2.2 1 _ rfl
 have a2 := (h4).2.2 2 _ rfl
 have a3 := (h4).2.2 3 _ rfl
 have a4 := (h4).2.2 4 _ rfl
 have a5 := (h4).2.2 5 _ rfl
 have a6 := (h4).2.2 6 _ rfl
 have af := (h4).2.1
 have ag := (h4).1
 clear h4
 have hw1 := HW1.out
 have hw2 := HW2.out
 have hts := HTs.out
 go_upto_region 15 with fail
 have hn_ := HNl.out
 have h_g4 := (HB_g4.out.of HX3.out)
 generalize hV_ : World.setCell _ _ _ = Y
 have HG_Y := hid (show GrL [g4, gl] w3 Y by rw [← hV_]; exact glP)
 have hz_g4 := hid (show Blk Y g4 [.slice pa pn pc, .slice va' vn vc', .slice fa fn fc, .slice la ln lc, .map q, .slice (some ⟨gl, 0, none⟩) sn sc', .int .i64 cr] by rw [← hV_]; exact bcP)
 have HOY := hid (show Own Y W.heap.size 3 1 itvE (.slice (some ⟨gl, 0, none⟩) sn sc') (m.st.set ti (s + 1)) by rw [← hV_]; exact Own.set itvE_len (HO.out.under (by have := HB_g4.out.1; omega) _) HS.out.1 (s + 1) (j := 0) (by omega) _ rfl (by omega))
 clear hV_ h_g4
 have hz_g8 := hid (Blk.grl (HB_g8.out.of HX3.out) HG_Y.out (by simp; omega))
 have hz_g9 := hid (Blk.grl (HB_g9.out.of HX3.out) HG_Y.out (by simp; omega))
 have hz_g12 := hid (Blk.grl (HB_g12.out.of HX3.out) HG_Y.out (by simp; omega))
 clear HB_g4
 have HB_g4 := hz_g4
 clear hz_g4
 clear HB_g8
 have HB_g8 := hz_g8
 clear hz_g8
 clear HB_g9
 have HB_g9 := hz_g9
 clear hz_g9
 clear HB_g12
 have HB_g12 := hz_g12
 clear hz_g12
 clear hn_
 clear a0 a1 a2 a3 a4 a5 a6 af ag k0 kf kg hw1 hw2 hts
 have b0 := (HB_g8.out).2.2 0 _ rfl
 have b1 := (HB_g8.out).2.2 1 _ rfl
 have b2 := (HB_g8.out).2.2 2 _ rfl
 have b3 := (HB_g8.out).2.2 3 _ rfl
 have b4 := (HB_g8.out).2.2 4 _ rfl
 have b5 := (HB_g8.out).2.2 5 _ rfl
 have b6 := (HB_g8.out).2.2 6 _ rfl
 have bf := (HB_g8.out).2.1
 have bg := (HB_g8.out).1
 have d0 := (HB_g9.out).2.2 0 _ rfl
 have d1 := (HB_g9.out).2.2 1 _ rfl
 have d2 := (HB_g9.out).2.2 2 _ rfl
 have d3 := (HB_g9.out).2.2 3 _ rfl
 have df := (HB_g9.out).2.1
 have dg := (HB_g9.out).1
 have HSt_ := hid (show ∀ w', GrL [g8, g9] Y w' → (fun w' => (w'.cell? ⟨g4, 0, none⟩ = some (.slice pa pn pc) ∧ w'.cell? ⟨g4, 1, none⟩ = some (.slice va' vn vc') ∧ w'.cell? ⟨g4, 2, none⟩ = some (.slice fa fn fc) ∧ w'.cell? ⟨g4, 3, none⟩ = some (.slice la ln lc) ∧ w'.cell? ⟨g4, 4, none⟩ = some (.map q) ∧ w'.cell? ⟨g4, 5, none⟩ = some (.slice (some ⟨gl, 0, none⟩) sn sc') ∧ w'.cell? ⟨g4, 6, none⟩ = some (.int .i64 cr) ∧ g4 < w'.heap.size) ∧ (w'.cell? ⟨g12, 0, none⟩ = some (.int .i64 x1) ∧ w'.cell? ⟨g12, 1, none⟩ = some (.int .u32 x2) ∧ w'.cell? ⟨g12, 2, none⟩ = some (.int .u32 x3) ∧ w'.cell? ⟨g12, 3, none⟩ = some (.bool true) ∧ g12 < w'.heap.size)) w' from fun w' G_ => by have h0_ := Blk.grl HB_g4.out G_ (by have := HNl.out; simp; omega); have h1_ := Blk.grl HB_g12.out G_ (by have := HNl.out; simp; omega); exact ⟨⟨h0_.2.2 0 _ rfl, h0_.2.2 1 _ rfl, h0_.2.2 2 _ rfl, h0_.2.2 3 _ rfl, h0_.2.2 4 _ rfl, h0_.2.2 5 _ rfl, h0_.2.2 6 _ rfl, h0_.1⟩, ⟨h1_.2.2 0 _ rfl, h1_.2.2 1 _ rfl, h1_.2.2 2 _ rfl, h1_.2.2 3 _ rfl, h1_.1⟩⟩)
 refine wp_region_held_drew (S := fun w' => (w'.cell? ⟨g4, 0, none⟩ = some (.slice pa pn pc) ∧ w'.cell? ⟨g4, 1, none⟩ = some (.slice va' vn vc') ∧ w'.cell? ⟨g4, 2, none⟩ = some (.slice fa fn fc) ∧ w'.cell? ⟨g4, 3, none⟩ = some (.slice la ln lc) ∧ w'.cell? ⟨g4, 4, none⟩ = some (.map q) ∧ w'.cell? ⟨g4, 5, none⟩ = some (.slice (some ⟨gl, 0, none⟩) sn sc') ∧ w'.cell? ⟨g4, 6, none⟩ = some (.int .i64 cr) ∧ g4 < w'.heap.size) ∧ (w'.cell? ⟨g12, 0, none⟩ = some (.int .i64 x1) ∧ w'.cell? ⟨g12, 1, none⟩ = some (.int .u32 x2) ∧ w'.cell? ⟨g12, 2, none⟩ = some (.int .u32 x3) ∧ w'.cell? ⟨g12, 3, none⟩ = some (.bool true) ∧ g12 < w'.heap.size)) (by kernel_rfl) (by exact HSt_.out _ (by exact glP)) (fun hHeld => ?_)
 refine tkm 0 (v := ?_) rfl ?_ ?_
 rotate_left 1
 ·intro w hSw
  try dsimp only at hSw
  go_simp
  try with_reducible rfl
 (try simp only [Act.put, pA, pB, pC])
 refine tkm 1 (v := ?_) rfl ?_ ?_
 rotate_left 1
 ·intro w hSw
  try dsimp only at hSw
  go_simp
  try with_reducible rfl
 (try simp only [Act.put, pA, pB, pC])
 refine take_only 2 (oi := ⟨_, _, _, _, _, _⟩) (by kernel_rfl) rfl (fun K hK => ?_)
 go_simp
 have hOld := hHeld
 clear hHeld
 refine hK.out _ _ (by exact HSt_.out _ (by exact glP)) (fun hHeld => ?_)
 clear hOld hK K
 (try simp only [Act.put, pA, pB, pC])
 refine take_only 3 (oi := ⟨_, _, _, _, _, _⟩) (by kernel_rfl) rfl (fun K hK => ?_)
 go_simp
 have hOld := hHeld
 clear hHeld
 refine hK.out _ _ (by exact HSt_.out _ (by exact glP)) (fun hHeld => ?_)
 clear hOld hK K
 (try simp only [Act.put, pA, pB, pC])
 refine tkm 4 (v := ?_) rfl ?_ ?_
 rotate_left 1
 ·intro w hSw
  try dsimp only at hSw
  go_simp
  try with_reducible rfl
 (try simp only [Act.put, pA, pB, pC])
 refine wpAnyH_done (by kernel_rfl) ?_ _
 clear hHeld
 (repeat (first | go_values | go_skip | go_guarded | go_step | go_upon | (simp only [Int.not_lt, Int.not_le] at *; go_simp) | (go_ite <;> go_prune <;> (try go_simp))))
 refine bodyPost_ret (v := .tuple #[.agg #[.slice pa pn pc, .slice va' vn vc', .slice fa fn fc, .slice la ln lc, .map q, .slice (some ⟨gl, 0, none⟩) sn sc', .int .i64 cr], .agg #[.int .i64 x1, .int .u32 x2, .int .u32 x3, .bool true], .int .i64 0]) (by simp [results, Tryz.results100, go_sem, b0, b1, b2, b3, b4, b5, b6, bf, bg, d0, d1, d2, d3, df, dg, d_g8_g9, d_g9_g8]) rfl ⟨va', vc', _, sc', rfl, ?_⟩
 generalize hZ_ : World.drew _ = Z
 have hgz : GrL [g8, g9] Y Z := by rw [← hZ_]; exact glP
 clear hZ_
 have hz1 : GrL [g4, g12, gl, g8, g9] w2 Z := ((HG_W.out.wide (by simp)).trans ((GrL.of_ext HX3.out).trans (HG_Y.out.wide (by simp)))).trans (hgz.wide (by simp))
 refine ⟨(HE_3.out.trans HX.out).grl hz1 (by have := HNl.out; simp; omega), ?_, ?_, ?_⟩
 ·exact (me_end HP.out HE_3.out HX.out (by have := HNl.out; simp; omega) HMe.out hz1).2.imp (fun _ h => h.imp id (fun h => h.wide (by simp)))
 ·exact (H.out.2.1.of ((HE_3.out.trans HX.out).grl hz1 (by have := HNl.out; simp; omega))).imp (fun _ h => .inl h)
 ·have ho := HOY.out.grl hgz (by have := HNl.out; have := HGl.out; simp [Value.ownBlock]; omega)
  exact (Sp.ownN (w0 := w) (D := mcD) itvE_len ho HE_W.out.size (by simp)).imp (fun b h => .inr h.2)
open Go.RowKit Go.Maps
def DoAll (q : Option Nat) (cr : Int) (m : Mc) (t : Int) (a : A8) (ch : Int) (g : Gt) (m' : Mc) : Prop :=
 ∀ (W : World) (P : Nat → Prop) (pa va fa la sa : Option Addr) (pn pc vn vc fn fc ln lc sn sc : Nat), (∀ b, P b → b < W.heap.size) → McR W P (.slice pa pn pc) (.slice va vn vc) (.slice fa fn fc) (.slice la ln lc) (.slice sa sn sc) m → DoOk W P #[.slice pa pn pc, .slice va vn vc, .slice fa fn fc, .slice la ln lc, .map q, .slice sa sn sc, .int .i64 cr] q cr fa pn vn fn fc ln sn t a ch g m'
theorem last_app {α : Type} (l : List α) (x : α) : (l ++ [x])[(l ++ [x]).length - 1]? = some x := by simp
structure GM (T : Nat) (m : Mc) (mem : List Wd) (n : Nat) : Prop where
 pn : m.me.pl.length = mem.length
 pm : mem.length ≤ 4096
 pl : ∀ (j : Nat) (l : List Mg), m.me.pl[j]? = some l → ∃ c x4 f, mem[j]? = some c ∧ l[l.length - 1]? = some ⟨c, x4, f⟩ ∧ l.length ≤ n + 1
 vn : m.me.vs.length = T
 fn : m.ln.first.length = m.me.pl.length
 lg : ∀ j, j < mem.length → ∃ ll, m.ln.logs[j / 8]? = some ll ∧ ll.1.length ≤ n
 lo : m.ln.logs.length ≤ 1000
 st : m.st.length = T ∧ ∀ (i : Nat) (s : Int), m.st[i]? = some s → 0 ≤ s ∧ s ≤ n
def memA (a : A8) (mem : List Wd) : List Wd := if a.op = 6 ∧ mem[a.at_.toNat]? = some a.o then mem.set a.at_.toNat a.n else mem
def gotA (a : A8) (mem : List Wd) : Gt := (mem[a.at_.toNat]?.getD (0, 0, 0), if a.op = 6 then decide (mem[a.at_.toNat]? = some a.o) else true)
theorem chooseN_zero (n fr : Nat) : chooseN n fr 0 = n - 1 := by
 unfold chooseN
 simp
theorem GM.st_up {T : Nat} {m : Mc} {mem : List Wd} {n : Nat} (h : GM T m mem n) (i : Nat) (hi : i < T) (s' : Int) (h1 : 0 ≤ s') (h2 : s' ≤ n + 1) : (m.st.set i s').length = T ∧ ∀ (j : Nat) (x : Int), (m.st.set i s')[j]? = some x → 0 ≤ x ∧ x ≤ (n + 1 : Nat) := ⟨by rw [List.length_set]; exact h.st.1, fun j x hx => by
 by_cases hj : i = j
 ·subst hj
  rw [List.getElem?_set_self (by rw [h.st.1]; exact hi)] at hx
  cases hx; omega
 ·rw [List.getElem?_set_ne hj] at hx
  have := h.st.2 j x hx; omega⟩
theorem GM.read {T : Nat} {m : Mc} {mem : List Wd} {n : Nat} (h : GM T m mem n) (i : Nat) (hi : i < T) {s : Int} (hs : m.st[i]? = some s) (vs : List (Int → Nat)) (hv : vs.length = T) : GM T ⟨⟨m.me.pl, vs⟩, m.ln, m.st.set i (s + 1)⟩ mem (n + 1) := by
 have hsr := h.st.2 i s hs
 exact ⟨h.pn, h.pm, fun j l hl => by obtain ⟨c, x4, f, e1, e2, e3⟩ := h.pl j l hl; exact ⟨c, x4, f, e1, e2, by omega⟩, hv, h.fn, fun j hj => by obtain ⟨ll, e1, e2⟩ := h.lg j hj; exact ⟨ll, e1, by omega⟩, h.lo, h.st_up i hi _ (by omega) (by omega)⟩
theorem doM {T : Nat} {m : Mc} {mem : List Wd} {n : Nat} (hg : GM T m mem n) (hT : T ≤ 8) (hn : n ≤ 100000) (i : Nat) (hi : i < T) (a : A8) (p : Nat) (hp : a.at_ = (p : Int)) (hpm : p < mem.length) (hop : a.op = 1 ∨ a.op = 5 ∨ a.op = 6) (q : Option Nat) (cr : Int) :
 ∃ m', GM T m' (memA a mem) (n + 1) ∧ DoAll q cr m ((i + 1 : Nat) : Int) a 0 (gotA a mem) m' := by
 obtain ⟨f, hf⟩ : ∃ f, m.me.vs[i]? = some f := ⟨m.me.vs[i]'(by rw [hg.vn]; exact hi), List.getElem?_eq_getElem _⟩
 obtain ⟨s, hs⟩ : ∃ s, m.st[i]? = some s := ⟨m.st[i]'(by rw [hg.st.1]; exact hi), List.getElem?_eq_getElem _⟩
 have hsr := hg.st.2 i s hs
 obtain ⟨l, h1⟩ : ∃ l, m.me.pl[p]? = some l := ⟨m.me.pl[p]'(by rw [hg.pn]; exact hpm), List.getElem?_eq_getElem _⟩
 obtain ⟨⟨c1, c2, c3⟩, x4, g, hc, h2, h3⟩ := hg.pl p l h1
 obtain ⟨ll, h7, h8⟩ := hg.lg p hpm
 have hpl := (List.getElem?_eq_some_iff.1 h1).1
 have hpp := hg.pn
 have hpm4 := hg.pm
 have hvn := hg.vn
 have hfn := hg.fn
 have hsl := hg.st.1
 obtain ⟨op, at_, ⟨o1, o2, o3⟩, n1, n2, n3⟩ := a
 dsimp only at hp hop
 subst hp
 by_cases hm : op = 6 ∧ (c1, c2, c3) = (o1, o2, o3)
 ·obtain ⟨rfl, hce⟩ := hm
  cases hce
  have hcl : memA ⟨6, (p : Int), (c1, c2, c3), (n1, n2, n3)⟩ mem = mem.set p (n1, n2, n3) := by unfold memA; rw [if_pos ⟨rfl, by simpa using hc⟩]; rfl
  have hgt : gotA ⟨6, (p : Int), (c1, c2, c3), (n1, n2, n3)⟩ mem = ((c1, c2, c3), true) := by unfold gotA; simp [hc]
  rw [hcl, hgt]
  refine ⟨⟨meSwaps m.me i p f g l (n1, n2, n3) (i + 1 : Nat), lnStores m.ln (p / 8) ll p (n1, n2, n3), m.st.set i (s + 1)⟩, ⟨?_, ?_, ?_, ?_, ?_, ?_, ?_, ?_⟩, ?_⟩
  ·simp only [meSwaps, meAdds, meFinds, List.length_set]; exact hpp
  ·rw [List.length_set]; exact hpm4
  ·simp only [meSwaps, meAdds, meFinds]
   intro j l' hl'
   by_cases hj : p = j
   ·subst hj
    rw [List.getElem?_set_self hpl] at hl'
    cases hl'
    exact ⟨_, _, _, List.getElem?_set_self hpm, last_app l _, by rw [List.length_append]; simp; omega⟩
   ·rw [List.getElem?_set_ne hj] at hl'
    obtain ⟨c, y4, f', e1, e2, e3⟩ := hg.pl j l' hl'
    exact ⟨c, y4, f', by rw [List.getElem?_set_ne hj]; exact e1, e2, by omega⟩
  ·simp only [meSwaps, meAdds, meFinds, List.length_set]; exact hvn
  ·simp only [meSwaps, meAdds, meFinds, lnStores, List.length_set]; exact hfn
  ·intro j hj
   rw [List.length_set] at hj
   obtain ⟨lj, e1, e2⟩ := hg.lg j hj
   by_cases hj8 : p / 8 = j / 8
   ·exact ⟨_, by simp only [lnStores]; rw [← hj8]; exact List.getElem?_set_self (List.getElem?_eq_some_iff.1 h7).1, by rw [List.length_append]; simp; omega⟩
   ·exact ⟨lj, by simp only [lnStores]; rw [List.getElem?_set_ne hj8]; exact e1, by omega⟩
  ·simp only [lnStores, List.length_set]; exact hg.lo
  ·exact hg.st_up i hi _ (by omega) (by omega)
  ·intro W P pa va fa la sa pn pc vn vc fn fc ln lc sn sc hP hM W' he
   have e1 := hM.plen
   have e2 := hM.vlen
   have e3 := hM.flen
   have hM' := hM.of he
   refine (mcdo_hit (w := W') (fun b hb => Nat.lt_of_lt_of_le (hP b hb) he.size) hM' q cr (i + 1) i rfl f hf (by omega) (by omega) (by omega) s hs (by omega) (by omega) p (by omega) l h1 c1 c2 c3 x4 g h2 (by omega) n1 n2 n3 0 (by omega) (by omega) (p / 8) rfl ll h7 (by omega) hg.lo).mono ?_
   rintro e w' ⟨pa', pc', va', vc', la', lc', sa', sc', rfl, he', hr⟩
   exact ⟨pa', pc', va', vc', la', lc', sa', sc', rfl, he', hr.imp (fun b hb => hb.imp id (fun h => h.1))⟩
 ·have hcl : memA ⟨op, (p : Int), (o1, o2, o3), (n1, n2, n3)⟩ mem = mem := if_neg (by rintro ⟨e1, e2⟩; dsimp only at e1 e2; rw [Int.toNat_natCast, hc] at e2; exact hm ⟨e1, Option.some.inj e2⟩)
  rw [hcl]
  rcases hop with rfl | rfl | rfl
  ·have hgt : gotA ⟨1, (p : Int), (o1, o2, o3), (n1, n2, n3)⟩ mem = ((c1, c2, c3), true) := by unfold gotA; simp [hc]
   rw [hgt]
   refine ⟨⟨meFinds m.me i p (l.length - 1) false f g, m.ln, m.st.set i (s + 1)⟩, hg.read i hi hs _ (by simp only [List.length_set]; exact hvn), ?_⟩
   intro W P pa va fa la sa pn pc vn vc fn fc ln lc sn sc hP hM W' he
   have e1 := hM.plen
   have e2 := hM.vlen
   have hM' := hM.of he
   refine (mcdo_load (w := W') (fun b hb => Nat.lt_of_lt_of_le (hP b hb) he.size) hM' q cr (i + 1) i rfl f hf (by omega) (by omega) (by omega) s hs (by omega) (by omega) p (by omega) l h1 c1 c2 c3 x4 g (l.length - 1) h2 0 (chooseN_zero _ _).symm (by omega) o1 o2 o3 n1 n2 n3).mono ?_
   rintro e w' ⟨va', vc', sa', sc', rfl, he', hr⟩
   exact ⟨pa, pc, va', vc', la, lc, sa', sc', rfl, he', hr.imp (fun b hb => hb.imp id (fun h => h.1))⟩
  ·have hgt : gotA ⟨5, (p : Int), (o1, o2, o3), (n1, n2, n3)⟩ mem = ((c1, c2, c3), true) := by unfold gotA; simp [hc]
   rw [hgt]
   refine ⟨⟨meFinds m.me i p (l.length - 1) true f g, m.ln, m.st.set i (s + 1)⟩, hg.read i hi hs _ (by simp only [List.length_set]; exact hvn), ?_⟩
   intro W P pa va fa la sa pn pc vn vc fn fc ln lc sn sc hP hM W' he
   have e1 := hM.plen
   have e2 := hM.vlen
   have hM' := hM.of he
   refine (mcdo_look (w := W') (fun b hb => Nat.lt_of_lt_of_le (hP b hb) he.size) hM' q cr (i + 1) i rfl f hf (by omega) (by omega) (by omega) s hs (by omega) (by omega) p (by omega) l h1 c1 c2 c3 x4 g h2 (by omega) o1 o2 o3 n1 n2 n3 0).mono ?_
   rintro e w' ⟨va', vc', sa', sc', rfl, he', hr⟩
   exact ⟨pa, pc, va', vc', la, lc, sa', sc', rfl, he', hr.imp (fun b hb => hb.imp id (fun h => h.1))⟩
  ·have hne : ¬ (c1 = o1 ∧ c2 = o2 ∧ c3 = o3) := fun ⟨h1, h2, h3⟩ => hm ⟨rfl, by rw [h1, h2, h3]⟩
   have hgt : gotA ⟨6, (p : Int), (o1, o2, o3), (n1, n2, n3)⟩ mem = ((c1, c2, c3), false) := by unfold gotA; simp [hc, hne]
   rw [hgt]
   refine ⟨⟨meFinds m.me i p (l.length - 1) true f g, m.ln, m.st.set i (s + 1)⟩, hg.read i hi hs _ (by simp only [List.length_set]; exact hvn), ?_⟩
   intro W P pa va fa la sa pn pc vn vc fn fc ln lc sn sc hP hM W' he
   have e1 := hM.plen
   have e2 := hM.vlen
   have hM' := hM.of he
   refine (mcdo_miss (w := W') (fun b hb => Nat.lt_of_lt_of_le (hP b hb) he.size) hM' q cr (i + 1) i rfl f hf (by omega) (by omega) (by omega) s hs (by omega) (by omega) p (by omega) l h1 c1 c2 c3 x4 g h2 (by omega) o1 o2 o3 n1 n2 n3 0 hne).mono ?_
   rintro e w' ⟨va', vc', sa', sc', rfl, he', hr⟩
   exact ⟨pa, pc, va', vc', la, lc, sa', sc', rfl, he', hr.imp (fun b hb => hb.imp id (fun h => h.1))⟩
def mcW (n : Nat) (ws : List Wd) (nl : Nat) : Mc := ⟨⟨ws.map (fun x => [⟨x, 0, fun _ => 0⟩]), List.replicate n (fun _ => 0)⟩, ⟨ws, List.replicate nl ([], 0)⟩, List.replicate n 0⟩
theorem GM.start (n : Nat) (ws : List Wd) (hk : ws.length ≤ 4096) (nl : Nat) (hnl : nl = (ws.length + 7) / 8) : GM n (mcW n ws nl) ws 0 := by
 refine ⟨by simp [mcW], hk, ?_, by simp [mcW], by simp [mcW], ?_, by simp [mcW]; omega, by simp [mcW], ?_⟩
 ·intro j l hl
  simp only [mcW, List.getElem?_map, Option.map_eq_some_iff] at hl
  obtain ⟨x, hx, rfl⟩ := hl
  exact ⟨x, 0, fun _ => 0, hx, rfl, by simp⟩
 ·intro j hj
  refine ⟨([], 0), ?_, by simp⟩
  simp only [mcW]
  rw [List.getElem?_replicate, if_pos (by omega)]
 ·intro i s hs
  simp only [mcW] at hs
  rw [List.getElem?_replicate] at hs
  split at hs
  ·cases hs; omega
  ·cases hs
open Go.RowKit Go.Maps
def gmS (K : CodeK) (s : Tk K.C × List Wd) : Tk K.C × List Wd := (tkNext K s.1 (gotA s.1.a s.2), memA s.1.a s.2)
def gmN (K : CodeK) (s : Tk K.C × List Wd) : Nat → Tk K.C × List Wd
 | 0 => s
 | n + 1 => gmS K (gmN K s n)
structure GmOk (K : CodeK) (s : Tk K.C × List Wd) : Prop where
 go : s.1.d = false
 at_ : ∃ p : Nat, s.1.a.at_ = (p : Int) ∧ p < s.2.length
 op : s.1.a.op = 1 ∨ s.1.a.op = 5 ∨ s.1.a.op = 6
 gd : K.Gd (gotA s.1.a s.2)
 gl : s.1.g.length ≤ 10000
theorem gm_seq {K : CodeK} {T : Nat} {m : Mc} {mem : List Wd} {n : Nat} (hg : GM T m mem n) (hT : T ≤ 8) (i : Nat) (hi : i < T) (q : Option Nat) (cr : Int) (ts : List (Tk K.C)) (htl : ts.length ≤ 1000) (bs : List Bool) (hbl : bs.length ≤ 1000) (hs : bs[i]?.getD false = false) (k : Tk K.C) (hk : ts[i]? = some k) (N : Nat) (hn : n + N ≤ 100000) (hok : ∀ j, j < N → GmOk K (gmN K (k, mem) j)) :
 ∃ M : Nat → Mc × List (Tk K.C), M 0 = (m, ts) ∧ (∀ j, j ≤ N → GM T (M j).1 (gmN K (k, mem) j).2 (n + j) ∧ (M j).2 = ts.set i (gmN K (k, mem) j).1) ∧ ∀ j, j < N → StepOk K q cr 0 (i + 1) 0 (M j) (M (j + 1)) bs bs := by
 induction N with
 | zero =>
  refine ⟨fun _ => (m, ts), rfl, ?_, by omega⟩
  intro j hj
  obtain rfl : j = 0 := by omega
  refine ⟨hg, ?_⟩
  obtain ⟨h1, h2⟩ := List.getElem?_eq_some_iff.1 hk
  show ts = ts.set i k
  rw [← h2, List.set_getElem_self]
 | succ N ih =>
  obtain ⟨M, h0, h1, h2⟩ := ih (by omega) (fun j hj => hok j (by omega))
  obtain ⟨e1, e2⟩ := h1 N (by omega)
  have ho := hok N (by omega)
  obtain ⟨p, hp, hpm⟩ := ho.at_
  obtain ⟨m', hg', hd⟩ := doM e1 hT (by omega) i hi (gmN K (k, mem) N).1.a p hp hpm ho.op q cr
  have hil := (List.getElem?_eq_some_iff.1 hk).1
  have hst : StepOk K q cr 0 (i + 1) 0 (M N) (m', ts.set i (gmN K (k, mem) (N + 1)).1) bs bs := by
   have hM : M N = ((M N).1, ts.set i (gmN K (k, mem) N).1) := by rw [← e2]
   have := step_go_ok (K := K) (q := q) (cr := cr) (m := (M N).1) (ts := ts.set i (gmN K (k, mem) N).1) (bs := bs) (by rw [e1.vn]; omega) (by rw [List.length_set]; exact htl) hbl 0 (i + 1) i rfl (gmN K (k, mem) N).1 (List.getElem?_set_self hil) hs ho.go ho.gl (gotA (gmN K (k, mem) N).1.a (gmN K (k, mem) N).2) ho.gd m' hd
   rw [List.set_set, ← hM] at this
   exact this
  refine ⟨fun j => if j ≤ N then M j else (m', ts.set i (gmN K (k, mem) (N + 1)).1), by simp [h0], ?_, ?_⟩
  ·intro j hj
   by_cases hjN : j ≤ N
   ·dsimp only
    rw [if_pos hjN]
    exact h1 j hjN
   ·obtain rfl : j = N + 1 := by omega
    dsimp only
    rw [if_neg hjN]
    exact ⟨hg', rfl⟩
  ·intro j hj
   dsimp only
   rw [if_pos (show j ≤ N by omega)]
   by_cases hjN : j + 1 ≤ N
   ·rw [if_pos hjN]
    exact h2 j (by omega)
   ·obtain rfl : j = N := by omega
    rw [if_neg hjN]
    exact hst
open Go.RowKit Go.Maps
theorem galone_any {K : CodeK} {w : World} {P : Nat → Prop} (hP : ∀ b, P b → b < w.heap.size) {pa va fa la sa ta ba : Option Addr} {pn pc vn vc fn fc ln lc sn sc tn tc bn bc : Nat} (q : Option Nat) (cr : Int) {m : Mc} {ts : List (Tk K.C)} {bs : List Bool}
 (h : WR K w P (.slice pa pn pc) (.slice va vn vc) (.slice fa fn fc) (.slice la ln lc) (.slice sa sn sc) (.slice ta tn tc) (.slice ba bn bc) m ts bs) {T : Nat} {mem : List Wd} {n : Nat} (hg : GM T m mem n) (hT : T ≤ 8) (i : Nat) (hi : i < T) (htl : ts.length ≤ 1000) (hbl : bs.length ≤ 1000) (hs : bs[i]?.getD false = false) (k : Tk K.C) (hk : ts[i]? = some k) (most N : Nat) (hmost : most ≤ 1000000) (hN : N ≤ most) (hn : n + N ≤ 100000)
 (hok : ∀ j, j < N → GmOk K (gmN K (k, mem) j)) (hend : N = most ∨ (gmN K (k, mem) N).1.d = true) :
 Calls Tryz.prog 21 #[.agg #[.slice pa pn pc, .slice va vn vc, .slice fa fn fc, .slice la ln lc, .map q, .slice sa sn sc, .int .i64 cr, .slice ta tn tc, .slice ba bn bc], .int .i64 (i + 1 : Nat), .int .i64 most] w fun e w' => ∃ v', e = .returned (.tuple #[v', .bool (gmN K (k, mem) N).1.d]) ∧ Ext w w' ∧ ∃ m', GM T m' (gmN K (k, mem) N).2 (n + N) ∧ WV K w' (fun b => P b ∨ w.heap.size ≤ b) q cr v' m' (ts.set i (gmN K (k, mem) N).1) bs := by
 obtain ⟨M, h0, h1, h2⟩ := gm_seq hg hT i hi q cr ts htl bs hbl hs k hk N hn hok
 obtain ⟨e1, e2⟩ := h1 N (Nat.le_refl _)
 have hil := (List.getElem?_eq_some_iff.1 hk).1
 have hMN : M N = ((M N).1, ts.set i (gmN K (k, mem) N).1) := by rw [← e2]
 have hkN : (M N).2[i]? = some (gmN K (k, mem) N).1 := by rw [e2]; exact List.getElem?_set_self hil
 refine (walone_any hP q cr M (by rw [h0]; exact h) (i + 1) i rfl (by rw [h0]; exact hil) (by rw [h0]; exact htl) hbl hs most N hmost hN h2 ?_ _ hkN).mono ?_
 ·rcases hend with he | he
  ·exact .inl he
  ·right
   rw [hMN]
   exact step_no_at (by rw [e1.vn]; omega) (by rw [List.length_set]; exact htl) hbl 0 0 (by omega) (i + 1) i rfl _ (List.getElem?_set_self hil) (.inl (.inr he))
 ·rintro e w' ⟨v', rfl, he, hv⟩
  refine ⟨v', rfl, he, (M N).1, e1, ?_⟩
  rw [e2] at hv
  exact hv
end Go.Proofs.YtiacdohaiidehaaGreatDoor
