/- The lines: Store. -/
import Derived.Test.YtiacdohaiidehaaGreatDoorPk10
import Derived.Test.YtiacdohaiidehaaGreatDoorPk11
namespace Go.Proofs.YtiacdohaiidehaaGreatDoor
set_option linter.unusedSimpArgs false
set_option linter.unusedVariables false
open Go.RowKit Go.Maps
set_option maxRecDepth 100000 in
set_option maxHeartbeats 1000000 in
theorem lstore_any {w : World} {P : Nat → Prop} (hP : ∀ b, P b → b < w.heap.size) {fa la : Option Addr} {fn fc ln lc : Nat} {m : Ln} (h : LnR w P (.slice fa fn fc) (.slice la ln lc) m) (q : Option Nat) (at_ n : Nat) (hat : at_ < fn) (hfn : fn ≤ 4096) (hn : n = at_ / 8) (l : List (Int × Wd) × Nat) (hl : m.logs[n]? = some l) (hll : l.1.length ≤ 900000) (hln : m.logs.length ≤ 1000) (x1 x2 x3 : Int) :
 Calls Tryz.prog 125 #[.agg #[.slice fa fn fc, .slice la ln lc, .map q], .int .i64 at_, .agg #[.int .i64 x1, .int .u32 x2, .int .u32 x3]] w fun e w' => ∃ la' lc', e = .returned (.tuple #[.agg #[.slice fa fn fc, .slice la' ln lc', .map q], .int .i64 0]) ∧ Ext w w' ∧ LnR w' (fun b => P b ∨ NewB lnD w w' b) (.slice fa fn fc) (.slice la' ln lc') (lnStores m n l at_ (x1, x2, x3)) := by
 have H := hid h
 have HP := hid hP
 obtain ⟨hf, rs, h1, h2, h3⟩ := h
 have HF := hid hf
 have H1 := hid h1
 have H2 := hid h2
 have H3 := hid h3
 have hlr : ln = rs.length := by obtain ⟨a', c', hv, _⟩ := h1.1; simp only [Value.slice.injEq] at hv; exact hv.2.1
 have HLr := hid hlr
 have hnl : n < m.logs.length := (List.getElem?_eq_some_iff.1 hl).1
 have HL := hid hl
 have HLl := hid hll
 have HN := hid hn
 have HR := hid (show rs.length ≤ 1000 by omega)
 have hnln : (n : Int) < (ln : Int) := by omega
 have hq8 : IntKind.i64.wrap ((at_ : Int) / 8) = (n : Int) := by rw [IntWalk.i64_in _ (by omega)]; omega
 have hqw : wrap64 ((at_ : Int) / 8) = (n : Int) := by rw [IntWalk.wrap64_in _ (by omega)]; omega
 have e1 := hid (show (decide (0 ≤ (at_ : Int)) && decide ((at_ : Int) < fn)) = true by simp; omega)
 clear hP hf h1 h2 h3 hl hll hln hat hfn hn hnl hlr
 go_enter Tryz.func125, Tryz.ntmps125
 go_wp2_with (go_call (lhas_any fa fn fc la ln lc q at_ _) as e w' ⟨rfl, r1, rfl⟩; rw [e1.out])
 generalize hV : ext _ r1 = V
 have HEV := hid (show Ext w V by rw [← hV]; exact exP)
 have HB3 := hid (show Blk V w.heap.size [.slice fa fn fc, .slice la ln lc, .map q] by rw [← hV]; exact bkP)
 have HB5 := hid (show Blk V (w.heap.size + 1) [.int .i64 x1, .int .u32 x2, .int .u32 x3] by rw [← hV]; exact bkP)
 have HB6 := hid (show Blk V (w.heap.size + 1 + 1) [.slice none 0 0, .slice none 0 0, .map none] by rw [← hV]; exact bkP)
 obtain ⟨g6, hg6⟩ : ∃ g, g = w.heap.size + 1 + 1 := ⟨_, rfl⟩
 rw [← hg6] at HB6 ⊢
 obtain ⟨g5, hg5⟩ : ∃ g, g = w.heap.size + 1 := ⟨_, rfl⟩
 rw [← hg5] at HB5 ⊢
 obtain ⟨g3, hg3⟩ : ∃ g, g = w.heap.size := ⟨_, rfl⟩
 rw [← hg3] at HB3 ⊢
 have HGn := hid (show g3 = w.heap.size ∧ g5 = g3 + 1 ∧ g6 = g3 + 1 + 1 by omega)
 clear hV hg6 hg5 hg3
 refine (lg_clone rs _ _ (by have := HR.out; omega) (H1.out.1.of lgE_len HEV.out)).mono ?_
 rintro e w' ⟨v', rfl, he2, hv⟩
 have HX := hid (show Ext V w' from he2)
 obtain ⟨gl, cl, rfl, hb1, hb2⟩ := Own.openT hv (by have := HLr.out; omega)
 rw [← HLr.out] at hv ⊢
 have HO := hid hv
 have HGl := hid (And.intro hb1 hb2)
 obtain ⟨rn, hrn⟩ : ∃ x, rs[n]? = some x := ⟨rs[n]'(by have := HLr.out; omega), List.getElem?_eq_getElem _⟩
 have HRn := hid hrn
 have h3b := HB3.out.of he2
 have d0 := h3b.2.2 0 _ rfl
 have d1 := h3b.2.2 1 _ rfl
 have d2 := h3b.2.2 2 _ rfl
 have df := h3b.2.1
 have dg := h3b.1
 have hgl3 : gl ≠ g3 := by have := HB3.out.1; omega
 have hgl3' : g3 ≠ gl := fun h => hgl3 h.symm
 clear he2 hv hb1 hrn h3b
 go_upto_region 5 with fail
 have hg3V := HB3.out.1
 have hg5V := HB5.out.1
 have hg6V := HB6.out.1
 generalize hW : World.setCell _ _ _ = W
 have HEW := hid (show Ext w W by rw [← hW]; exact (HEV.out.trans HX.out).setCell (by show w.heap.size ≤ g3; have := HGn.out; omega) _)
 have HO' := hid (show Own W V.heap.size 220 2 lgE (.slice (some ⟨gl, 0, none⟩) ln cl) rs by rw [← hW]; exact HO.out.under hg3V _)
 have HB3' := hid (show Blk W g3 [.slice fa fn fc, .slice (some ⟨gl, 0, none⟩) ln cl, .map q] by rw [← hW]; exact (HB3.out.of HX.out).set 1 (by simp) _)
 have HB5' := hid (show Blk W g5 [.int .i64 x1, .int .u32 x2, .int .u32 x3] by rw [← hW]; exact Blk.other' (by have := HGn.out; omega) (HB5.out.of HX.out))
 have HB6' := hid (show Blk W g6 [.slice none 0 0, .slice none 0 0, .map none] by rw [← hW]; exact Blk.other' (by have := HGn.out; omega) (HB6.out.of HX.out))
 clear hW d0 d1 d2 df dg hnln hq8 hqw hb2
 obtain ⟨⟨ra, rk, rc⟩, kp⟩ := rn
 have h3 := H3.out n _ l HRn.out HL.out
 dsimp only at h3
 obtain ⟨sa, sc, hsv, hsc, hs0⟩ := h3.2.shape
 simp only [Value.slice.injEq] at hsv
 obtain ⟨rfl, hrk, rfl⟩ := hsv
 have HS := hid h3.2
 have HKp := hid h3.1
 have HRk := hid hrk
 have hclip := stclip_any (w := W) (a := ra) (n := rk) (c := rc) (by omega) (fun h => by rw [hrk]; exact hs0 h)
 have HClip := hid (fun (w : World) => stclip_any (w := w) (a := ra) (n := rk) (c := rc) (by omega) (fun h => by rw [hrk]; exact hs0 h))
 clear h3 hsc hs0 hrk hclip
 obtain ⟨hx, b', o', he, hb, hc⟩ := (Sl.of_own lgE_len HO'.out).at HRn.out
 obtain ⟨rfl, rfl⟩ : gl = b' ∧ 0 = o' := by simpa using he
 have k0 := hc 0 (by omega)
 have k1 := hc 1 (by omega)
 simp [lgE] at k0 k1
 have kf : ∀ i, W.frozen? ⟨gl, i, none⟩ = false := by
  obtain ⟨_, cs, h⟩ := own_typed HO'.out rfl
  exact (blk_heap h).2.1
 have kg := hb
 clear hx he hc hb
 have HSt := hid (show ∀ w', Grn gl W w' → (fun w' => w'.cell? ⟨g5, 0, none⟩ = some (.int .i64 x1) ∧ w'.cell? ⟨g5, 1, none⟩ = some (.int .u32 x2) ∧ w'.cell? ⟨g5, 2, none⟩ = some (.int .u32 x3) ∧ g5 < w'.heap.size) w' from fun w' G => by
  have h := HB5'.out.grn G (by have := HGl.out; omega)
  exact ⟨h.2.2 0 _ rfl, h.2.2 1 _ rfl, h.2.2 2 _ rfl, h.1⟩)
 have HCl := hid (show ∀ w', Ext w w' → Sl w' 4 stE (.slice ra rk rk) l.1 from fun w' he => by
  have h := HS.out.1.of stE_len he
  rw [HRk.out] at h ⊢
  exact Sl.clipM h)
 obtain ⟨q9, hq9⟩ : ∃ x, x = l.1.length + 1 := ⟨_, rfl⟩
 have HQ9 := hid hq9
 clear hq9
 refine wp_region_held_drew (S := fun w' => w'.cell? ⟨g5, 0, none⟩ = some (.int .i64 x1) ∧ w'.cell? ⟨g5, 1, none⟩ = some (.int .u32 x2) ∧ w'.cell? ⟨g5, 2, none⟩ = some (.int .u32 x3) ∧ g5 < w'.heap.size) (by kernel_rfl) (by exact HSt.out _ (by exact gnP)) (fun hHeld => ?_)
 refine tkm 0 (v := ?_) rfl ?_ ?_
 rotate_left 1
 ·intro w hSw
  try dsimp only at hSw
  go_simp
  try with_reducible rfl
 (try simp only [Act.put, pA, pB, pC])
 refine tkm 1 (v := ?_) rfl ?_ ?_
 rotate_left 1
 ·intro w hSw
  try dsimp only at hSw
  go_simp
  try with_reducible rfl
 (try simp only [Act.put, pA, pB, pC])
 refine tkm 2 (v := ?_) rfl ?_ ?_
 rotate_left 1
 ·intro w hSw
  try dsimp only at hSw
  go_simp
  try with_reducible rfl
 (try simp only [Act.put, pA, pB, pC])
 refine tkm 3 (v := ?_) rfl ?_ ?_
 rotate_left 1
 ·intro w hSw
  try dsimp only at hSw
  go_simp
  try with_reducible rfl
 (try simp only [Act.put, pA, pB, pC])
 refine tkm 6 (v := ?_) rfl ?_ ?_
 rotate_left 1
 ·intro w hSw
  try dsimp only at hSw
  go_simp
  try with_reducible rfl
 (try simp only [Act.put, pA, pB, pC])
 refine tkm 7 (v := ?_) rfl ?_ ?_
 rotate_left 1
 ·intro w hSw
  try dsimp only at hSw
  go_simp
  try with_reducible rfl
 (try simp only [Act.put, pA, pB, pC])
 refine tkm 8 (v := ?_) rfl ?_ ?_
 rotate_left 1
 ·intro w hSw
  try dsimp only at hSw
  go_simp
  try with_reducible rfl
 (try simp only [Act.put, pA, pB, pC])
 refine wpAnyH_ready (rs := [4, 9]) (by kernel_rfl) (by simp) ?_
 refine AllReadyH.cons (o := ⟨_, _, _, _, _, _⟩) rfl (fun K hK => ?_) ?_
 ·
  go_simp
  have hOld := hHeld
  clear hHeld
  refine hK.out _ _ (by exact HSt.out _ (by exact gnP)) (fun hHeld => ?_)
  clear hOld hK K
  (try simp only [Act.put, pA, pB, pC])
  refine wpAnyH_ready (rs := [5, 9]) (by kernel_rfl) (by simp) ?_
  refine AllReadyH.cons (o := ⟨_, _, _, _, _, _⟩) rfl (fun K hK => ?_) ?_
  ·
   go_simp
   first
    | (go_at_call 140; refine (HClip.out _).mono ?_; rintro e w' ⟨rfl, r5, rfl⟩)
   have hOld := hHeld
   clear hHeld
   refine hK.out _ _ (by exact HSt.out _ (by exact gnP)) (fun hHeld => ?_)
   clear hOld hK K
   (try simp only [Act.put, pA, pB, pC])
   refine take_only 9 (oi := ⟨_, _, _, _, _, _⟩) (by kernel_rfl) rfl (fun K hK => ?_)
   go_simp
   have hOld := hHeld
   clear hHeld
   refine hK.out _ _ (by exact HSt.out _ (by exact gnP)) (fun hHeld => ?_)
   clear hOld hK K
   (try simp only [Act.put, pA, pB, pC])
   refine take_only 10 (oi := ⟨_, _, _, _, _, _⟩) (by kernel_rfl) rfl (fun K hK => ?_)
   rw [if_pos (by rfl)]
   first
    | (refine st_clip_op _ _ rfl rfl (HCl.out _ (HEW.out.trans (by exact exF))) _ 1 1 rfl [((at_ : Int), (x1, x2, x3))] rfl (by omega) (blk_newsA (enc := stE) (x := ((at_ : Int), (x1, x2, x3))) (by show Blk _ _ [.int .i64 (at_ : Int), .int .i64 x1, .int .u32 x2, .int .u32 x3]; exact bkP)) (by have := HLl.out; have := HRk.out; omega) ?_; intro v9 r9 hv9; obtain ⟨a9, c9, hs9⟩ := Own.shape hv9; have hl9 : List.length (l.1 ++ [((at_ : Int), ((x1, x2, x3) : Wd))]) = q9 := (by rw [List.length_append, HQ9.out]; rfl); rw [hl9] at hs9; subst hs9; have HV9 := hid hv9; clear hv9 hl9)
   have hOld := hHeld
   clear hHeld
   refine hK.out _ _ (by exact HSt.out _ (by exact gnP)) (fun hHeld => ?_)
   clear hOld hK K
   (try simp only [Act.put, pA, pB, pC])
   refine tkm 11 (v := ?_) rfl ?_ ?_
   rotate_left 1
   ·intro w hSw
    try dsimp only at hSw
    go_simp
    try with_reducible rfl
   (try simp only [Act.put, pA, pB, pC])
   refine tkm 12 (v := ?_) rfl ?_ ?_
   rotate_left 1
   ·intro w hSw
    try dsimp only at hSw
    go_simp
    try with_reducible rfl
   (try simp only [Act.put, pA, pB, pC])
   refine take_only 13 (oi := ⟨_, _, _, _, _, _⟩) (by kernel_rfl) rfl (fun K hK => ?_)
   go_simp
   have hOld := hHeld
   clear hHeld
   refine hK.out _ _ (by exact HSt.out _ (by exact gnP)) (fun hHeld => ?_)
   clear hOld hK K
   (try simp only [Act.put, pA, pB, pC])
   refine wpAnyH_done (by kernel_rfl) ?_ _
   clear hHeld
   have hgl := HGl.out
   have hgn := HGn.out
   have hkz := kg
   generalize hZ : World.setCell _ _ _ = Z
   have HGz := hid (show Grn gl W Z by rw [← hZ]; exact gnP)
   have HEz := hid (show Ext w Z by rw [← hZ]; exact (HEW.out.trans (by exact exF)).setCell (by show w.heap.size ≤ gl; have := HEV.out.size; omega) _)
   have HOz := hid (show Own Z V.heap.size 220 2 lgE (.slice (some ⟨gl, 0, none⟩) ln cl) (rs.set n ((a9, q9, c9), kp)) by rw [← hZ]; exact Own.set lgE_len (HO'.out.of_ext (by exact exF)) HRn.out ((a9, q9, c9), kp) (j := 0) (by omega) _ rfl (by omega))
   have HVz := hid (show Own Z W.heap.size 222 4 stE (.slice a9 q9 c9) (l.1 ++ [((at_ : Int), (x1, x2, x3))]) by rw [← hZ]; exact (Own.mono HV9.out (show Ext W _ by exact exF).size).under (by omega) _)
   clear hZ k0 k1 kf
   have h3z := HB3'.out.grn HGz.out hgl3'
   have h6z := HB6'.out.grn HGz.out (by have := HB6.out.1; omega)
   have d0 := h3z.2.2 0 _ rfl
   have d1 := h3z.2.2 1 _ rfl
   have d2 := h3z.2.2 2 _ rfl
   have dg := h3z.1
   have c0 := h6z.2.2 0 _ rfl
   have c1 := h6z.2.2 1 _ rfl
   have c2 := h6z.2.2 2 _ rfl
   have cf := h6z.2.1
   have cg := h6z.1
   have hge6 : w.heap.size ≤ g6 := by omega
   clear hgl hgn hkz h3z h6z
   (repeat (first | go_values | go_skip | go_guarded | go_step | go_upon | (simp only [Int.not_lt, Int.not_le] at *; go_simp) | (go_ite <;> go_prune <;> (try go_simp))))
   refine bodyPost_ret (v := .tuple #[.agg #[.slice fa fn fc, .slice (some ⟨gl, 0, none⟩) ln cl, .map q], .int .i64 0]) (by simp [results, Tryz.results125, go_sem, c0, c1, c2, cf, cg]) rfl ⟨_, _, rfl, by exact exF, ?_⟩
   have hk : KpB P w _ := KpB.of_ext (show Ext w (((Z.setCell ⟨g6, 0, none⟩ (.slice fa fn fc)).setCell ⟨g6, 1, none⟩ (.slice (some ⟨gl, 0, none⟩) ln cl)).setCell ⟨g6, 2, none⟩ (.map q)) from by exact exF)
   refine ⟨(HF.out.kp wdE_len hk).imp (fun b h => .inl h), rs.set n ((a9, q9, c9), kp), ?_, by simp only [lnStores, List.length_set]; exact H2.out, ?_⟩
   ·exact ((Sp.ownN (w0 := w) (D := lnD) lgE_len HOz.out HEV.out.size (List.mem_cons_of_mem _ (List.mem_cons_self ..))).kp lgE_len (((KpB.refl.setCell (fun h => by have h1 := h.1; omega) _).setCell (fun h => by have h1 := h.1; omega) _).setCell (fun h => by have h1 := h.1; omega) _)).imp (fun b h => .inr (h.2.to (Nat.le_refl _) (by exact tyP)))
   ·intro i r l' e1 e2
    simp only [lnStores] at e2
    by_cases hi : i = n
    ·subst hi
     rw [List.getElem?_set_self (List.getElem?_eq_some_iff.1 HRn.out).1] at e1
     rw [List.getElem?_set_self (List.getElem?_eq_some_iff.1 HL.out).1] at e2
     cases e1; cases e2
     have h6 := HB6'.out.1
     exact ⟨HKp.out, ((Sp.ownN (w0 := w) (D := lnD) stE_len HVz.out HEW.out.size (List.mem_cons_of_mem _ (List.mem_cons_of_mem _ (List.mem_cons_self ..)))).kp stE_len (((KpB.refl.setCell (fun h => by have h1 := h.1; omega) _).setCell (fun h => by have h1 := h.1; omega) _).setCell (fun h => by have h1 := h.1; omega) _)).imp (fun b h => .inr (h.2.to (Nat.le_refl _) (by exact tyP)))⟩
    ·rw [List.getElem?_set_ne (fun h => hi h.symm)] at e1 e2
     exact ⟨(H3.out i r l' e1 e2).1, ((H3.out i r l' e1 e2).2.kp stE_len hk).imp (fun b h => .inl h)⟩
  refine AllReadyH.cons (o := ⟨_, _, _, _, _, _⟩) rfl (fun K hK => ?_) AllReadyH.nil
  go_simp
  have hOld := hHeld
  clear hHeld
  refine hK.out _ _ (by exact HSt.out _ (by exact gnP)) (fun hHeld => ?_)
  clear hOld hK K
  (try simp only [Act.put, pA, pB, pC])
  refine take_only 5 (oi := ⟨_, _, _, _, _, _⟩) (by kernel_rfl) rfl (fun K hK => ?_)
  go_simp
  first
   | (go_at_call 140; refine (HClip.out _).mono ?_; rintro e w' ⟨rfl, r5, rfl⟩)
  have hOld := hHeld
  clear hHeld
  refine hK.out _ _ (by exact HSt.out _ (by exact gnP)) (fun hHeld => ?_)
  clear hOld hK K
  (try simp only [Act.put, pA, pB, pC])
  refine take_only 10 (oi := ⟨_, _, _, _, _, _⟩) (by kernel_rfl) rfl (fun K hK => ?_)
  rw [if_pos (by rfl)]
  first
   | (refine st_clip_op _ _ rfl rfl (HCl.out _ (HEW.out.trans (by exact exF))) _ 1 1 rfl [((at_ : Int), (x1, x2, x3))] rfl (by omega) (blk_newsA (enc := stE) (x := ((at_ : Int), (x1, x2, x3))) (by show Blk _ _ [.int .i64 (at_ : Int), .int .i64 x1, .int .u32 x2, .int .u32 x3]; exact bkP)) (by have := HLl.out; have := HRk.out; omega) ?_; intro v9 r9 hv9; obtain ⟨a9, c9, hs9⟩ := Own.shape hv9; have hl9 : List.length (l.1 ++ [((at_ : Int), ((x1, x2, x3) : Wd))]) = q9 := (by rw [List.length_append, HQ9.out]; rfl); rw [hl9] at hs9; subst hs9; have HV9 := hid hv9; clear hv9 hl9)
  have hOld := hHeld
  clear hHeld
  refine hK.out _ _ (by exact HSt.out _ (by exact gnP)) (fun hHeld => ?_)
  clear hOld hK K
  (try simp only [Act.put, pA, pB, pC])
  refine tkm 11 (v := ?_) rfl ?_ ?_
  rotate_left 1
  ·intro w hSw
   try dsimp only at hSw
   go_simp
   try with_reducible rfl
  (try simp only [Act.put, pA, pB, pC])
  refine tkm 12 (v := ?_) rfl ?_ ?_
  rotate_left 1
  ·intro w hSw
   try dsimp only at hSw
   go_simp
   try with_reducible rfl
  (try simp only [Act.put, pA, pB, pC])
  refine take_only 13 (oi := ⟨_, _, _, _, _, _⟩) (by kernel_rfl) rfl (fun K hK => ?_)
  go_simp
  have hOld := hHeld
  clear hHeld
  refine hK.out _ _ (by exact HSt.out _ (by exact gnP)) (fun hHeld => ?_)
  clear hOld hK K
  (try simp only [Act.put, pA, pB, pC])
  refine wpAnyH_done (by kernel_rfl) ?_ _
  clear hHeld
  have hgl := HGl.out
  have hgn := HGn.out
  have hkz := kg
  generalize hZ : World.setCell _ _ _ = Z
  have HGz := hid (show Grn gl W Z by rw [← hZ]; exact gnP)
  have HEz := hid (show Ext w Z by rw [← hZ]; exact (HEW.out.trans (by exact exF)).setCell (by show w.heap.size ≤ gl; have := HEV.out.size; omega) _)
  have HOz := hid (show Own Z V.heap.size 220 2 lgE (.slice (some ⟨gl, 0, none⟩) ln cl) (rs.set n ((a9, q9, c9), kp)) by rw [← hZ]; exact Own.set lgE_len (HO'.out.of_ext (by exact exF)) HRn.out ((a9, q9, c9), kp) (j := 0) (by omega) _ rfl (by omega))
  have HVz := hid (show Own Z W.heap.size 222 4 stE (.slice a9 q9 c9) (l.1 ++ [((at_ : Int), (x1, x2, x3))]) by rw [← hZ]; exact (Own.mono HV9.out (show Ext W _ by exact exF).size).under (by omega) _)
  clear hZ k0 k1 kf
  have h3z := HB3'.out.grn HGz.out hgl3'
  have h6z := HB6'.out.grn HGz.out (by have := HB6.out.1; omega)
  have d0 := h3z.2.2 0 _ rfl
  have d1 := h3z.2.2 1 _ rfl
  have d2 := h3z.2.2 2 _ rfl
  have dg := h3z.1
  have c0 := h6z.2.2 0 _ rfl
  have c1 := h6z.2.2 1 _ rfl
  have c2 := h6z.2.2 2 _ rfl
  have cf := h6z.2.1
  have cg := h6z.1
  have hge6 : w.heap.size ≤ g6 := by omega
  clear hgl hgn hkz h3z h6z
  (repeat (first | go_values | go_skip | go_guarded | go_step | go_upon | (simp only [Int.not_lt, Int.not_le] at *; go_simp) | (go_ite <;> go_prune <;> (try go_simp))))
  refine bodyPost_ret (v := .tuple #[.agg #[.slice fa fn fc, .slice (some ⟨gl, 0, none⟩) ln cl, .map q], .int .i64 0]) (by simp [results, Tryz.results125, go_sem, c0, c1, c2, cf, cg]) rfl ⟨_, _, rfl, by exact exF, ?_⟩
  have hk : KpB P w _ := KpB.of_ext (show Ext w (((Z.setCell ⟨g6, 0, none⟩ (.slice fa fn fc)).setCell ⟨g6, 1, none⟩ (.slice (some ⟨gl, 0, none⟩) ln cl)).setCell ⟨g6, 2, none⟩ (.map q)) from by exact exF)
  refine ⟨(HF.out.kp wdE_len hk).imp (fun b h => .inl h), rs.set n ((a9, q9, c9), kp), ?_, by simp only [lnStores, List.length_set]; exact H2.out, ?_⟩
  ·exact ((Sp.ownN (w0 := w) (D := lnD) lgE_len HOz.out HEV.out.size (List.mem_cons_of_mem _ (List.mem_cons_self ..))).kp lgE_len (((KpB.refl.setCell (fun h => by have h1 := h.1; omega) _).setCell (fun h => by have h1 := h.1; omega) _).setCell (fun h => by have h1 := h.1; omega) _)).imp (fun b h => .inr (h.2.to (Nat.le_refl _) (by exact tyP)))
  ·intro i r l' e1 e2
   simp only [lnStores] at e2
   by_cases hi : i = n
   ·subst hi
    rw [List.getElem?_set_self (List.getElem?_eq_some_iff.1 HRn.out).1] at e1
    rw [List.getElem?_set_self (List.getElem?_eq_some_iff.1 HL.out).1] at e2
    cases e1; cases e2
    have h6 := HB6'.out.1
    exact ⟨HKp.out, ((Sp.ownN (w0 := w) (D := lnD) stE_len HVz.out HEW.out.size (List.mem_cons_of_mem _ (List.mem_cons_of_mem _ (List.mem_cons_self ..)))).kp stE_len (((KpB.refl.setCell (fun h => by have h1 := h.1; omega) _).setCell (fun h => by have h1 := h.1; omega) _).setCell (fun h => by have h1 := h.1; omega) _)).imp (fun b h => .inr (h.2.to (Nat.le_refl _) (by exact tyP)))⟩
   ·rw [List.getElem?_set_ne (fun h => hi h.symm)] at e1 e2
    exact ⟨(H3.out i r l' e1 e2).1, ((H3.out i r l' e1 e2).2.kp stE_len hk).imp (fun b h => .inl h)⟩
 refine AllReadyH.cons (o := ⟨_, _, _, _, _, _⟩) rfl (fun K hK => ?_) AllReadyH.nil
 go_simp
 have hOld := hHeld
 clear hHeld
 refine hK.out _ _ (by exact HSt.out _ (by exact gnP)) (fun hHeld => ?_)
 clear hOld hK K
 (try simp only [Act.put, pA, pB, pC])
 refine take_only 4 (oi := ⟨_, _, _, _, _, _⟩) (by kernel_rfl) rfl (fun K hK => ?_)
 go_simp
 have hOld := hHeld
 clear hHeld
 refine hK.out _ _ (by exact HSt.out _ (by exact gnP)) (fun hHeld => ?_)
 clear hOld hK K
 (try simp only [Act.put, pA, pB, pC])
 refine take_only 5 (oi := ⟨_, _, _, _, _, _⟩) (by kernel_rfl) rfl (fun K hK => ?_)
 go_simp
 first
  | (go_at_call 140; refine (HClip.out _).mono ?_; rintro e w' ⟨rfl, r5, rfl⟩)
 have hOld := hHeld
 clear hHeld
 refine hK.out _ _ (by exact HSt.out _ (by exact gnP)) (fun hHeld => ?_)
 clear hOld hK K
 (try simp only [Act.put, pA, pB, pC])
 refine take_only 10 (oi := ⟨_, _, _, _, _, _⟩) (by kernel_rfl) rfl (fun K hK => ?_)
 rw [if_pos (by rfl)]
 first
  | (refine st_clip_op _ _ rfl rfl (HCl.out _ (HEW.out.trans (by exact exF))) _ 1 1 rfl [((at_ : Int), (x1, x2, x3))] rfl (by omega) (blk_newsA (enc := stE) (x := ((at_ : Int), (x1, x2, x3))) (by show Blk _ _ [.int .i64 (at_ : Int), .int .i64 x1, .int .u32 x2, .int .u32 x3]; exact bkP)) (by have := HLl.out; have := HRk.out; omega) ?_; intro v9 r9 hv9; obtain ⟨a9, c9, hs9⟩ := Own.shape hv9; have hl9 : List.length (l.1 ++ [((at_ : Int), ((x1, x2, x3) : Wd))]) = q9 := (by rw [List.length_append, HQ9.out]; rfl); rw [hl9] at hs9; subst hs9; have HV9 := hid hv9; clear hv9 hl9)
 have hOld := hHeld
 clear hHeld
 refine hK.out _ _ (by exact HSt.out _ (by exact gnP)) (fun hHeld => ?_)
 clear hOld hK K
 (try simp only [Act.put, pA, pB, pC])
 refine tkm 11 (v := ?_) rfl ?_ ?_
 rotate_left 1
 ·intro w hSw
  try dsimp only at hSw
  go_simp
  try with_reducible rfl
 (try simp only [Act.put, pA, pB, pC])
 refine tkm 12 (v := ?_) rfl ?_ ?_
 rotate_left 1
 ·intro w hSw
  try dsimp only at hSw
  go_simp
  try with_reducible rfl
 (try simp only [Act.put, pA, pB, pC])
 refine take_only 13 (oi := ⟨_, _, _, _, _, _⟩) (by kernel_rfl) rfl (fun K hK => ?_)
 go_simp
 have hOld := hHeld
 clear hHeld
 refine hK.out _ _ (by exact HSt.out _ (by exact gnP)) (fun hHeld => ?_)
 clear hOld hK K
 (try simp only [Act.put, pA, pB, pC])
 refine wpAnyH_done (by kernel_rfl) ?_ _
 clear hHeld
 have hgl := HGl.out
 have hgn := HGn.out
 have hkz := kg
 generalize hZ : World.setCell _ _ _ = Z
 have HGz := hid (show Grn gl W Z by rw [← hZ]; exact gnP)
 have HEz := hid (show Ext w Z by rw [← hZ]; exact (HEW.out.trans (by exact exF)).setCell (by show w.heap.size ≤ gl; have := HEV.out.size; omega) _)
 have HOz := hid (show Own Z V.heap.size 220 2 lgE (.slice (some ⟨gl, 0, none⟩) ln cl) (rs.set n ((a9, q9, c9), kp)) by rw [← hZ]; exact Own.set lgE_len (HO'.out.of_ext (by exact exF)) HRn.out ((a9, q9, c9), kp) (j := 0) (by omega) _ rfl (by omega))
 have HVz := hid (show Own Z W.heap.size 222 4 stE (.slice a9 q9 c9) (l.1 ++ [((at_ : Int), (x1, x2, x3))]) by rw [← hZ]; exact (Own.mono HV9.out (show Ext W _ by exact exF).size).under (by omega) _)
 clear hZ k0 k1 kf
 have h3z := HB3'.out.grn HGz.out hgl3'
 have h6z := HB6'.out.grn HGz.out (by have := HB6.out.1; omega)
 have d0 := h3z.2.2 0 _ rfl
 have d1 := h3z.2.2 1 _ rfl
 have d2 := h3z.2.2 2 _ rfl
 have dg := h3z.1
 have c0 := h6z.2.2 0 _ rfl
 have c1 := h6z.2.2 1 _ rfl
 have c2 := h6z.2.2 2 _ rfl
 have cf := h6z.2.1
 have cg := h6z.1
 have hge6 : w.heap.size ≤ g6 := by omega
 clear hgl hgn hkz h3z h6z
 (repeat (first | go_values | go_skip | go_guarded | go_step | go_upon | (simp only [Int.not_lt, Int.not_le] at *; go_simp) | (go_ite <;> go_prune <;> (try go_simp))))
 refine bodyPost_ret (v := .tuple #[.agg #[.slice fa fn fc, .slice (some ⟨gl, 0, none⟩) ln cl, .map q], .int .i64 0]) (by simp [results, Tryz.results125, go_sem, c0, c1, c2, cf, cg]) rfl ⟨_, _, rfl, by exact exF, ?_⟩
 have hk : KpB P w _ := KpB.of_ext (show Ext w (((Z.setCell ⟨g6, 0, none⟩ (.slice fa fn fc)).setCell ⟨g6, 1, none⟩ (.slice (some ⟨gl, 0, none⟩) ln cl)).setCell ⟨g6, 2, none⟩ (.map q)) from by exact exF)
 refine ⟨(HF.out.kp wdE_len hk).imp (fun b h => .inl h), rs.set n ((a9, q9, c9), kp), ?_, by simp only [lnStores, List.length_set]; exact H2.out, ?_⟩
 ·exact ((Sp.ownN (w0 := w) (D := lnD) lgE_len HOz.out HEV.out.size (List.mem_cons_of_mem _ (List.mem_cons_self ..))).kp lgE_len (((KpB.refl.setCell (fun h => by have h1 := h.1; omega) _).setCell (fun h => by have h1 := h.1; omega) _).setCell (fun h => by have h1 := h.1; omega) _)).imp (fun b h => .inr (h.2.to (Nat.le_refl _) (by exact tyP)))
 ·intro i r l' e1 e2
  simp only [lnStores] at e2
  by_cases hi : i = n
  ·subst hi
   rw [List.getElem?_set_self (List.getElem?_eq_some_iff.1 HRn.out).1] at e1
   rw [List.getElem?_set_self (List.getElem?_eq_some_iff.1 HL.out).1] at e2
   cases e1; cases e2
   have h6 := HB6'.out.1
   exact ⟨HKp.out, ((Sp.ownN (w0 := w) (D := lnD) stE_len HVz.out HEW.out.size (List.mem_cons_of_mem _ (List.mem_cons_of_mem _ (List.mem_cons_self ..)))).kp stE_len (((KpB.refl.setCell (fun h => by have h1 := h.1; omega) _).setCell (fun h => by have h1 := h.1; omega) _).setCell (fun h => by have h1 := h.1; omega) _)).imp (fun b h => .inr (h.2.to (Nat.le_refl _) (by exact tyP)))⟩
  ·rw [List.getElem?_set_ne (fun h => hi h.symm)] at e1 e2
   exact ⟨(H3.out i r l' e1 e2).1, ((H3.out i r l' e1 e2).2.kp stE_len hk).imp (fun b h => .inl h)⟩
end Go.Proofs.YtiacdohaiidehaaGreatDoor
