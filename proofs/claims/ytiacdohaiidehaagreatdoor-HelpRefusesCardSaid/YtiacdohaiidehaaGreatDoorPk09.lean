/- The memory: New. -/
import Derived.Test.YtiacdohaiidehaaGreatDoorPk08
namespace Go.Proofs.YtiacdohaiidehaaGreatDoor
set_option linter.unusedSimpArgs false
set_option linter.unusedVariables false
open Go.RowKit Go.Maps
theorem hs_append_gop {o : Oper} {a : Act} {K : Act → World → Prop} {Q : Exit → Act → World → Prop} {w : World} {base : Nat} {v : Value} {l : List RHs}
 (s x : Operand) (ho : o.op = .call { callee := .builtin .append, args := #[s, x], argTypes := #[78, 78] })
 (hbw : base ≤ w.heap.size) (hs : a.eval s = v) (hown : Own w base 174 1 hsE v l)
 (ad : Addr) (m c : Nat) (hx : a.eval x = .slice (some ad) m c) (news : List RHs) (hm : news.length = m)
 (hnews : ∀ (j : Nat) (u : Value), (news.flatMap hsE)[j]? = some u → w.cell? (ad.add j) = some u)
 (hlen : l.length + m ≤ 1000000)
 (h : ∀ v' w', Own w' base 174 1 hsE v' (l ++ news) → w.grownBy w' v.ownBlock → K (a.put o.dst v') w') : Oper.wp Tryz.prog o a w K Q := by
 obtain ⟨i0, hi, hz0, hz1, hz2⟩ := info_parts Tryz.infoHist
 have hl : (news.flatMap hsE).length = m * 1 := by rw [← hm]; exact flat_len hsE_len news
 obtain ⟨v', w', hr, h1, h2, _, h4⟩ := run_append_own_at (P := Tryz.prog) w base 78 o.type 174 i0 _ 1 _ Tryz.underlying78 hi hz0 hz1 hz2 rfl (by decide) v l.length (l.flatMap hsE) hown ad m c (news.flatMap hsE) hl hnews
  (fun u hu => by obtain ⟨y, _, hy⟩ := List.mem_flatMap.1 hu; simp at hy; rw [hy]; rfl) (by unfold maxLen; omega) (by omega) hbw
 unfold Oper.wp execOp
 simp only [ho, resolve, invoke, builtin, Sem.run_bind, Sem.run_pure, Result.andThen_ok, List.map_toArray, List.map_cons, List.map_nil, hs, hx, hr]
 refine h v' w' ?_ h2
 have e1 : (l ++ news).length = l.length + m := by simp [hm]
 have e2 : (l ++ news).flatMap hsE = l.flatMap hsE ++ news.flatMap hsE := by simp
 unfold Own
 rw [e1, e2]
 exact h1
theorem made_nil (n : Nat) : (madeCells #[.map none] (n * 1)).toList = (List.replicate n (none : Option Nat)).flatMap mqE := by
 have h : (List.replicate n (none : Option Nat)).flatMap mqE = List.replicate n (.map none) := by
  induction n with
  | zero => rfl
  | succ n ih => rw [List.replicate_succ, List.flatMap_cons, ih]; rfl
 rw [h]
 apply List.ext_getElem
 ·simp [madeCells]
 ·intro i h1 h2
  simp [madeCells, Nat.mod_one]
theorem grow_elem {zb : Nat} {w0 w1 U w9 : World} {row : Option Nat} {P : Nat → Prop} {v : Value} {l : List Mg} (hx : HsR w1 P v l) (h1 : Ext w1 U) (hg : U.grownBy w9 row)
 (htop : ∀ g, row = some g → ∃ cs, U.heap[g]? = some (.cells cs 174 (0, 0))) (hP : ∀ b, P b → zb ≤ b ∧ NewB [181] w0 w1 b) : HsR w9 (fun b => zb ≤ b ∧ NewB [181] w0 w9 b) v l := by
 have hnot : ∀ g, row = some g → ¬ P g := fun g hr h => by
  obtain ⟨cs, h2⟩ := htop g hr
  exact ((hP g h).2.to (Nat.le_refl _) (TyK.of_ext h1)).not h2 (by decide)
 refine ((hx.of h1).kp (kp_grown hg (fun g hr => ⟨hnot g hr, by obtain ⟨cs, h2⟩ := htop g hr; exact ⟨_, _, _, h2⟩⟩))).imp (fun b h => ?_)
 exact ⟨(hP b h).1, newb_grown ((hP b h).2.to (Nat.le_refl _) (TyK.of_ext h1)) hg (fun he => hnot b he.symm h)⟩
set_option maxRecDepth 100000 in
set_option maxHeartbeats 1000000 in
theorem mNew_any {w : World} {a : Option Addr} {k c : Nat} {ws : List Wd} (hw : Sl w 3 wdE (.slice a k c) ws) (hk1 : 1 ≤ k) (hk2 : k ≤ 4096) (n : Nat) (hn1 : 1 ≤ n) (hn2 : n ≤ 8) :
 Calls Tryz.prog 75 #[.int .i64 n, .slice a k c] w fun e w' => ∃ pa pc va vc, e = .returned (.tuple #[.agg #[.slice pa k pc, .slice va n vc], .int .i64 0]) ∧ Ext w w' ∧ MeR w' (NewB memD w w') (.slice pa k pc) (.slice va n vc) ⟨ws.map (fun x => [⟨x, 0, fun _ => 0⟩]), List.replicate n (fun _ => 0)⟩ := by
 have hkl : k = ws.length := by obtain ⟨a', c', hv, _⟩ := hw; simp only [Value.slice.injEq] at hv; exact hv.2.1
 have HKl := hid hkl
 have HW := hid hw
 obtain ⟨x0, hx0⟩ : ∃ x, ws[0]? = some x := ⟨ws[0]'(by omega), List.getElem?_eq_getElem _⟩
 obtain ⟨hxa, b, o, rfl, hb, hc⟩ := hw.at hx0
 clear hxa hb hc hx0 x0
 have HK := hid (And.intro hk1 hk2)
 have HN := hid (And.intro hn1 hn2)
 have hmk := mk_views n (by omega)
 have g1 : ¬ ((n : Int) < 1) := by omega
 have g2 : ¬ (8 < (n : Int)) := by omega
 have g3 : ¬ ((k : Int) = 0) := by omega
 have g4 : ¬ (4096 < (k : Int)) := by omega
 have hk0 : ((k : Int) == 0) = false := by simp; omega
 clear hkl hw hk1 hk2 hn1 hn2
 go_enter Tryz.func75, Tryz.ntmps75
 go_upto_region 8 with fail
 generalize hZ : World.alloc _ _ = Z
 have HXZ := hid (show Ext w Z by rw [← hZ]; exact exP)
 have HB4 := hid (show Blk Z w.heap.size [.slice none 0 0, .slice none 0 0] by rw [← hZ]; exact bkP)
 have HGv := hid (show Z.heap[w.heap.size + 1]? = some (.cells (madeCells #[.map none] n) 179 (0, 0)) from by
  rw [← hZ]
  exact heap_of_ext (Ext.of_alloc _ _) (heap_new (by simp)))
 have HB6 := hid (show Blk Z (w.heap.size + 1 + 1) [.slice none 0 0, .slice (some ⟨w.heap.size + 1, 0, none⟩) n n] by rw [← hZ]; exact Blk.new _ _ rfl (by simp))
 obtain ⟨g6, hg6⟩ : ∃ g, g = w.heap.size + 1 + 1 := ⟨_, rfl⟩
 rw [← hg6] at HB6 ⊢
 obtain ⟨gv, hgv⟩ : ∃ g, g = w.heap.size + 1 := ⟨_, rfl⟩
 rw [← hgv] at HB6 HGv ⊢
 obtain ⟨g4', hg4'⟩ : ∃ g, g = w.heap.size := ⟨_, rfl⟩
 rw [← hg4'] at HB4 ⊢
 have HGs := hid (show g6 = gv + 1 ∧ gv = g4' + 1 ∧ g4' = w.heap.size by omega)
 clear hZ hg6 hgv hg4' g1 g2 g3 g4 hk0 hmk
 go_wp2_with fail
 go_loopw [32] (fun i wk => ∃ (j : Nat) (pa : Option Addr) (pc : Nat) (hs : List RHs), j ≤ k ∧ i = .int .i64 j ∧ Hid (Blk wk g6 [.slice pa j pc, .slice (some ⟨gv, 0, none⟩) n n]) ∧ Hid (Own wk Z.heap.size 174 1 hsE (.slice pa j pc) hs) ∧ Hid (hs.length = j ∧ ∀ (i : Nat) (h : RHs) (x : Wd), hs[i]? = some h → ws[i]? = some x → HsR wk (fun b => Z.heap.size ≤ b ∧ NewB [181] w wk b) (.slice h.1 h.2.1 h.2.2) [⟨x, 0, fun _ => 0⟩]) ∧ Hid (Grn g6 Z wk)) (fun i _ => k - (intOf i).toNat)
 case atStart => exact ⟨0, none, 0, [], Nat.zero_le _, rfl, HB6, hid Own.nil, hid ⟨rfl, fun i h x e => by simp at e⟩, hid Grn.refl⟩
 case round =>
 have HB6z := hid HB6.out.1
 clear HB6
 obtain ⟨j, pa, pc, hs, hjk, rfl, HB6, HO, HE, HG⟩ := hrel
 have HXr := hid (HXZ.out.grn HG.out (by have := HGs.out; omega))
 by_cases hj : j < k
 ·obtain ⟨x, hx⟩ : ∃ x, ws[j]? = some x := ⟨ws[j]'(by have := HKl.out; omega), List.getElem?_eq_getElem _⟩
  obtain ⟨hxa, b', o', hb', hb, hc⟩ := (HW.out.of wdE_len HXr.out).at hx
  obtain ⟨rfl, rfl⟩ : b = b' ∧ o = o' := by simpa using hb'
  obtain ⟨x1, x2, x3⟩ := x
  have c0 := hc 0 (by omega)
  have c1 := hc 1 (by omega)
  have c2 := hc 2 (by omega)
  simp [wdE] at c0 c1 c2
  have HX := hid hx
  have hjk2 : (j : Int) < (k : Int) := by omega
  obtain ⟨q, hq⟩ : ∃ q, q = j + 1 := ⟨_, rfl⟩
  have hwj : wrap64 ((j : Int) + 1) = (q : Int) := by
   have := HK.out
   rw [IntWalk.wrap64_in _ (by omega)]; omega
  have HQ := hid hq
  have HJ := hid hj
  clear hxa hb' hc hx hj hq
  go_upto_region 11 with fail
  generalize hWW : World.alloc _ _ = W
  have HXW := hid (show Ext wr W by rw [← hWW]; exact exP)
  have HB8 := hid (show Blk W wr.heap.size [.int .i64 x1, .int .u32 x2, .int .u32 x3] by rw [← hWW]; exact bkP)
  obtain ⟨g8, hg8⟩ : ∃ g, g = wr.heap.size := ⟨_, rfl⟩
  rw [← hg8] at HB8 ⊢
  have HG8 := hid hg8
  clear hWW hg8 c0 c1 c2 hb
  have hh6 := HB6.out.of HXW.out
  have a0 := hh6.2.2 0 _ rfl
  have af := hh6.2.1
  have ag := hh6.1
  have b0 := HB8.out.2.2 0 _ rfl
  have b1 := HB8.out.2.2 1 _ rfl
  have b2 := HB8.out.2.2 2 _ rfl
  have bg := HB8.out.1
  clear hh6
  have HgZ := hid (show g6 < Z.heap.size by have := HB4.out.1; have := HGs.out; have := (Array.getElem?_eq_some_iff.1 HGv.out).1; exact HB6z.out)
  have hzr := HG.out.size
  have hgZ : g6 < Z.heap.size := HgZ.out
  have hg86 : g6 ≠ g8 := by have := HG8.out; omega
  have HSt := hid (fun w' (h : Ext W w') => And.intro (h.cell b0) (And.intro (h.cell b1) (And.intro (h.cell b2) (Nat.lt_of_lt_of_le bg h.size))))
  have hzW : Z.heap.size ≤ W.heap.size := by have := HXW.out.size; omega
  refine wp_region_held_drew (S := fun w' => w'.cell? ⟨g8, 0, none⟩ = some (.int .i64 x1) ∧ w'.cell? ⟨g8, 1, none⟩ = some (.int .u32 x2) ∧ w'.cell? ⟨g8, 2, none⟩ = some (.int .u32 x3) ∧ g8 < w'.heap.size) (by kernel_rfl) (by first | with_reducible exact HS9.out | with_reducible exact HS9s.out _ | exact HSt.out _ (by exact exF)) (fun hHeld => ?_)
  refine tkm 0 (v := ?_) rfl ?_ ?_
  rotate_left 1
  ·intro w hSw
   try dsimp only at hSw
   go_simp
   try with_reducible rfl
  (try simp only [Act.put, pA, pB, pC])
  refine tkm 2 (v := ?_) rfl ?_ ?_
  rotate_left 1
  ·intro w hSw
   try dsimp only at hSw
   go_simp
   try with_reducible rfl
  (try simp only [Act.put, pA, pB, pC])
  refine wpAnyH_ready (rs := [1, 3]) (by kernel_rfl) (by simp) ?_
  refine AllReadyH.cons (o := ⟨_, _, _, _, _, _⟩) rfl (fun K hK => ?_) ?_
  ·
   go_simp
   have hOld := hHeld
   clear hHeld
   refine hK.out _ _ (by first | with_reducible exact HS9.out | with_reducible exact HS9s.out _ | exact HSt.out _ (by exact exF)) (fun hHeld => ?_)
   clear hOld hK K
   (try simp only [Act.put, pA, pB, pC])
   refine take_only 3 (oi := ⟨_, _, _, _, _, _⟩) (by kernel_rfl) rfl (fun K hK => ?_)
   go_simp
   first
    | (go_at_call 95; refine (hnew_any x1 x2 x3 _).mono ?_; rintro e w' ⟨v, rfl, ⟨r3, rfl⟩, hh⟩; obtain ⟨ha, hc3, rfl, hh1, hh2⟩ := hh.shape; have HH := hid hh; clear hh hh1 hh2)
   have hOld := hHeld
   clear hHeld
   refine hK.out _ _ (by first | with_reducible exact HS9.out | with_reducible exact HS9s.out _ | exact HSt.out _ (by exact exF)) (fun hHeld => ?_)
   clear hOld hK K
   (try simp only [Act.put, pA, pB, pC])
   refine take_only 4 (oi := ⟨_, _, _, _, _, _⟩) (by kernel_rfl) rfl (fun K hK => ?_)
   go_simp
   have hOld := hHeld
   clear hHeld
   refine hK.out _ _ (by first | with_reducible exact HS9.out | with_reducible exact HS9s.out _ | exact HSt.out _ (by exact exF)) (fun hHeld => ?_)
   clear hOld hK K
   (try simp only [Act.put, pA, pB, pC])
   refine take_only 5 (oi := ⟨_, _, _, _, _, _⟩) (by kernel_rfl) rfl (fun K hK => ?_)
   rw [if_pos (by rfl)]
   first
    | (refine hs_append_gop _ _ rfl (by (first | exact Nat.le_refl _ | (simp; done) | (simp; omega))) rfl (Own.alloc (HO.out.of_ext (HXW.out.trans (by exact exF))) _) _ 1 1 rfl [(ha, 1, hc3)] rfl (blk_newsA (enc := hsE) (x := (ha, 1, hc3)) (Blk.new _ _ rfl (by simp))) (by have := HE.out.1; have := HK.out; omega) ?_; intro v9 w9 hv9 hg9; have HGr := hid (show World.grownBy _ w9 (Value.slice pa j pc).ownBlock from hg9); have HV9 := hid hv9; have HT9 := hid (fun (g : Nat) (hg : (Value.slice pa j pc).ownBlock = some g) => own_typed (Own.alloc (HO.out.of_ext (HXW.out.trans (show Ext W (ext W r3) from ⟨r3, rfl⟩))) (.cells #[.slice ha 1 hc3] 174 (0, 0))) hg); have HB69 := hid (((HB6.out.of (HXW.out.trans (show Ext W (ext W r3) from ⟨r3, rfl⟩))).alloc _).gro hg9 (HO.out.not_at hgZ)); have HB89 := hid (((HB8.out.of (show Ext W (ext W r3) from ⟨r3, rfl⟩)).alloc _).gro hg9 (fun he => by have := HO.out.tops _ he; have := HG8.out; omega)); have HS9 := hid (show _ ∧ _ ∧ _ ∧ _ from ⟨HB89.out.2.2 0 _ rfl, HB89.out.2.2 1 _ rfl, HB89.out.2.2 2 _ rfl, HB89.out.1⟩); have HS9s := hid (fun u => by have h := (Blk.other' (i := 0) (u := u) hg86 HB89.out); exact And.intro (h.2.2 0 _ rfl) (And.intro (h.2.2 1 _ rfl) (And.intro (h.2.2 2 _ rfl) h.1))); have HGN9 := hid ((HG.out.trans ((Grn.of_ext (HXW.out.trans (show Ext W (ext W r3) from ⟨r3, rfl⟩))).alloc _)).gro hg9 HO.out.bases); obtain ⟨a9, c9, hs9⟩ := Own.shape hv9; have hl9 : List.length (hs ++ [((ha, 1, hc3) : RHs)]) = q := (by rw [List.length_append, HE.out.1, HQ.out]; rfl); rw [hl9] at hs9; subst hs9; clear hl9; clear hv9 hg9; have q0 := HB69.out.2.1; have q1 := HB69.out.2.2 0 _ rfl; have q2 := HB69.out.1)
   have hOld := hHeld
   clear hHeld
   refine hK.out _ _ (by first | with_reducible exact HS9.out | with_reducible exact HS9s.out _ | exact HSt.out _ (by exact exF)) (fun hHeld => ?_)
   clear hOld hK K
   (try simp only [Act.put, pA, pB, pC])
   refine tkm 6 (v := ?_) rfl ?_ ?_
   rotate_left 1
   ·intro w hSw
    try dsimp only at hSw
    go_simp
    try with_reducible rfl
   (try simp only [Act.put, pA, pB, pC])
   refine take_only 7 (oi := ⟨_, _, _, _, _, _⟩) (by kernel_rfl) rfl (fun K hK => ?_)
   go_simp
   have hOld := hHeld
   clear hHeld
   refine hK.out _ _ (by first | with_reducible exact HS9.out | with_reducible exact HS9s.out _ | exact HSt.out _ (by exact exF)) (fun hHeld => ?_)
   clear hOld hK K
   (try simp only [Act.put, pA, pB, pC])
   refine wpAnyH_done (by kernel_rfl) ?_ _
   clear hHeld
   go_wp2_with fail
   go_roundw
   case rel =>
    refine ⟨q, a9, c9, hs ++ [(ha, 1, hc3)], by have := HQ.out; have := HJ.out; omega, by rw [hwj], hid (HB69.out.set 0 (by simp) _), hid (HV9.out.under hgZ _), hid ⟨by rw [List.length_append, HE.out.1, HQ.out]; rfl, fun i h x e1 e2 => ?_⟩, hid (HGN9.out.setCell _ _)⟩
    have hfin : ∀ l, HsR w9 (fun b => Z.heap.size ≤ b ∧ NewB [181] w w9 b) (.slice h.1 h.2.1 h.2.2) l → HsR (w9.setCell ⟨g6, 0, none⟩ (.slice a9 q c9)) (fun b => Z.heap.size ≤ b ∧ NewB [181] w (w9.setCell ⟨g6, 0, none⟩ (.slice a9 q c9)) b) (.slice h.1 h.2.1 h.2.2) l := fun l hl => (hl.kp (KpB.refl.setCell (fun hh => by have := hh.1; omega) _)).imp (fun b hh => ⟨hh.1, hh.2.to (Nat.le_refl _) (TyK.refl.setCell _ _)⟩)
    apply hfin
    by_cases hi : i < hs.length
    ·rw [List.getElem?_append_left hi] at e1
     exact grow_elem (HE.out.2 i h x e1 e2) ((HXW.out.trans (show Ext W (ext W r3) from ⟨r3, rfl⟩)).trans (Ext.of_alloc _ _)) HGr.out (fun g hg => (HT9.out g hg).2) (fun b h => h)
    ·rw [List.getElem?_append_right (by omega)] at e1
     have hi0 : i - hs.length = 0 := by
      have := (List.getElem?_eq_some_iff.1 e1).1
      simp at this; omega
     rw [hi0] at e1
     have he1 : h = (ha, 1, hc3) := by simpa using e1.symm
     have hij : i = j := by have := HE.out.1; omega
     rw [hij, HX.out] at e2
     have he2 : x = (x1, x2, x3) := by simpa using e2.symm
     rw [he1, he2]
     exact grow_elem (w1 := ext W r3) HH.out (Ext.of_alloc _ _) HGr.out (fun g hg => (HT9.out g hg).2) (fun b h => ⟨Nat.le_trans hzW h.1, (show NewB _ W (ext W r3) b from h).to (HXr.out.trans HXW.out).size TyK.refl⟩)
   case measure => have := HQ.out; have := HJ.out; rw [hwj]; show k - ((q : Int)).toNat < k - ((j : Int)).toNat; omega
  refine AllReadyH.cons (o := ⟨_, _, _, _, _, _⟩) rfl (fun K hK => ?_) AllReadyH.nil
  go_simp
  first
   | (go_at_call 95; refine (hnew_any x1 x2 x3 _).mono ?_; rintro e w' ⟨v, rfl, ⟨r3, rfl⟩, hh⟩; obtain ⟨ha, hc3, rfl, hh1, hh2⟩ := hh.shape; have HH := hid hh; clear hh hh1 hh2)
  have hOld := hHeld
  clear hHeld
  refine hK.out _ _ (by first | with_reducible exact HS9.out | with_reducible exact HS9s.out _ | exact HSt.out _ (by exact exF)) (fun hHeld => ?_)
  clear hOld hK K
  (try simp only [Act.put, pA, pB, pC])
  refine wpAnyH_ready (rs := [1, 4]) (by kernel_rfl) (by simp) ?_
  refine AllReadyH.cons (o := ⟨_, _, _, _, _, _⟩) rfl (fun K hK => ?_) ?_
  ·
   go_simp
   have hOld := hHeld
   clear hHeld
   refine hK.out _ _ (by first | with_reducible exact HS9.out | with_reducible exact HS9s.out _ | exact HSt.out _ (by exact exF)) (fun hHeld => ?_)
   clear hOld hK K
   (try simp only [Act.put, pA, pB, pC])
   refine take_only 4 (oi := ⟨_, _, _, _, _, _⟩) (by kernel_rfl) rfl (fun K hK => ?_)
   go_simp
   have hOld := hHeld
   clear hHeld
   refine hK.out _ _ (by first | with_reducible exact HS9.out | with_reducible exact HS9s.out _ | exact HSt.out _ (by exact exF)) (fun hHeld => ?_)
   clear hOld hK K
   (try simp only [Act.put, pA, pB, pC])
   refine take_only 5 (oi := ⟨_, _, _, _, _, _⟩) (by kernel_rfl) rfl (fun K hK => ?_)
   rw [if_pos (by rfl)]
   first
    | (refine hs_append_gop _ _ rfl (by (first | exact Nat.le_refl _ | (simp; done) | (simp; omega))) rfl (Own.alloc (HO.out.of_ext (HXW.out.trans (by exact exF))) _) _ 1 1 rfl [(ha, 1, hc3)] rfl (blk_newsA (enc := hsE) (x := (ha, 1, hc3)) (Blk.new _ _ rfl (by simp))) (by have := HE.out.1; have := HK.out; omega) ?_; intro v9 w9 hv9 hg9; have HGr := hid (show World.grownBy _ w9 (Value.slice pa j pc).ownBlock from hg9); have HV9 := hid hv9; have HT9 := hid (fun (g : Nat) (hg : (Value.slice pa j pc).ownBlock = some g) => own_typed (Own.alloc (HO.out.of_ext (HXW.out.trans (show Ext W (ext W r3) from ⟨r3, rfl⟩))) (.cells #[.slice ha 1 hc3] 174 (0, 0))) hg); have HB69 := hid (((HB6.out.of (HXW.out.trans (show Ext W (ext W r3) from ⟨r3, rfl⟩))).alloc _).gro hg9 (HO.out.not_at hgZ)); have HB89 := hid (((HB8.out.of (show Ext W (ext W r3) from ⟨r3, rfl⟩)).alloc _).gro hg9 (fun he => by have := HO.out.tops _ he; have := HG8.out; omega)); have HS9 := hid (show _ ∧ _ ∧ _ ∧ _ from ⟨HB89.out.2.2 0 _ rfl, HB89.out.2.2 1 _ rfl, HB89.out.2.2 2 _ rfl, HB89.out.1⟩); have HS9s := hid (fun u => by have h := (Blk.other' (i := 0) (u := u) hg86 HB89.out); exact And.intro (h.2.2 0 _ rfl) (And.intro (h.2.2 1 _ rfl) (And.intro (h.2.2 2 _ rfl) h.1))); have HGN9 := hid ((HG.out.trans ((Grn.of_ext (HXW.out.trans (show Ext W (ext W r3) from ⟨r3, rfl⟩))).alloc _)).gro hg9 HO.out.bases); obtain ⟨a9, c9, hs9⟩ := Own.shape hv9; have hl9 : List.length (hs ++ [((ha, 1, hc3) : RHs)]) = q := (by rw [List.length_append, HE.out.1, HQ.out]; rfl); rw [hl9] at hs9; subst hs9; clear hl9; clear hv9 hg9; have q0 := HB69.out.2.1; have q1 := HB69.out.2.2 0 _ rfl; have q2 := HB69.out.1)
   have hOld := hHeld
   clear hHeld
   refine hK.out _ _ (by first | with_reducible exact HS9.out | with_reducible exact HS9s.out _ | exact HSt.out _ (by exact exF)) (fun hHeld => ?_)
   clear hOld hK K
   (try simp only [Act.put, pA, pB, pC])
   refine tkm 6 (v := ?_) rfl ?_ ?_
   rotate_left 1
   ·intro w hSw
    try dsimp only at hSw
    go_simp
    try with_reducible rfl
   (try simp only [Act.put, pA, pB, pC])
   refine take_only 7 (oi := ⟨_, _, _, _, _, _⟩) (by kernel_rfl) rfl (fun K hK => ?_)
   go_simp
   have hOld := hHeld
   clear hHeld
   refine hK.out _ _ (by first | with_reducible exact HS9.out | with_reducible exact HS9s.out _ | exact HSt.out _ (by exact exF)) (fun hHeld => ?_)
   clear hOld hK K
   (try simp only [Act.put, pA, pB, pC])
   refine wpAnyH_done (by kernel_rfl) ?_ _
   clear hHeld
   go_wp2_with fail
   go_roundw
   case rel =>
    refine ⟨q, a9, c9, hs ++ [(ha, 1, hc3)], by have := HQ.out; have := HJ.out; omega, by rw [hwj], hid (HB69.out.set 0 (by simp) _), hid (HV9.out.under hgZ _), hid ⟨by rw [List.length_append, HE.out.1, HQ.out]; rfl, fun i h x e1 e2 => ?_⟩, hid (HGN9.out.setCell _ _)⟩
    have hfin : ∀ l, HsR w9 (fun b => Z.heap.size ≤ b ∧ NewB [181] w w9 b) (.slice h.1 h.2.1 h.2.2) l → HsR (w9.setCell ⟨g6, 0, none⟩ (.slice a9 q c9)) (fun b => Z.heap.size ≤ b ∧ NewB [181] w (w9.setCell ⟨g6, 0, none⟩ (.slice a9 q c9)) b) (.slice h.1 h.2.1 h.2.2) l := fun l hl => (hl.kp (KpB.refl.setCell (fun hh => by have := hh.1; omega) _)).imp (fun b hh => ⟨hh.1, hh.2.to (Nat.le_refl _) (TyK.refl.setCell _ _)⟩)
    apply hfin
    by_cases hi : i < hs.length
    ·rw [List.getElem?_append_left hi] at e1
     exact grow_elem (HE.out.2 i h x e1 e2) ((HXW.out.trans (show Ext W (ext W r3) from ⟨r3, rfl⟩)).trans (Ext.of_alloc _ _)) HGr.out (fun g hg => (HT9.out g hg).2) (fun b h => h)
    ·rw [List.getElem?_append_right (by omega)] at e1
     have hi0 : i - hs.length = 0 := by
      have := (List.getElem?_eq_some_iff.1 e1).1
      simp at this; omega
     rw [hi0] at e1
     have he1 : h = (ha, 1, hc3) := by simpa using e1.symm
     have hij : i = j := by have := HE.out.1; omega
     rw [hij, HX.out] at e2
     have he2 : x = (x1, x2, x3) := by simpa using e2.symm
     rw [he1, he2]
     exact grow_elem (w1 := ext W r3) HH.out (Ext.of_alloc _ _) HGr.out (fun g hg => (HT9.out g hg).2) (fun b h => ⟨Nat.le_trans hzW h.1, (show NewB _ W (ext W r3) b from h).to (HXr.out.trans HXW.out).size TyK.refl⟩)
   case measure => have := HQ.out; have := HJ.out; rw [hwj]; show k - ((q : Int)).toNat < k - ((j : Int)).toNat; omega
  refine AllReadyH.cons (o := ⟨_, _, _, _, _, _⟩) rfl (fun K hK => ?_) AllReadyH.nil
  go_simp
  have hOld := hHeld
  clear hHeld
  refine hK.out _ _ (by first | with_reducible exact HS9.out | with_reducible exact HS9s.out _ | exact HSt.out _ (by exact exF)) (fun hHeld => ?_)
  clear hOld hK K
  (try simp only [Act.put, pA, pB, pC])
  refine take_only 1 (oi := ⟨_, _, _, _, _, _⟩) (by kernel_rfl) rfl (fun K hK => ?_)
  go_simp
  have hOld := hHeld
  clear hHeld
  refine hK.out _ _ (by first | with_reducible exact HS9.out | with_reducible exact HS9s.out _ | exact HSt.out _ (by exact exF)) (fun hHeld => ?_)
  clear hOld hK K
  (try simp only [Act.put, pA, pB, pC])
  refine take_only 5 (oi := ⟨_, _, _, _, _, _⟩) (by kernel_rfl) rfl (fun K hK => ?_)
  rw [if_pos (by rfl)]
  first
   | (refine hs_append_gop _ _ rfl (by (first | exact Nat.le_refl _ | (simp; done) | (simp; omega))) rfl (Own.alloc (HO.out.of_ext (HXW.out.trans (by exact exF))) _) _ 1 1 rfl [(ha, 1, hc3)] rfl (blk_newsA (enc := hsE) (x := (ha, 1, hc3)) (Blk.new _ _ rfl (by simp))) (by have := HE.out.1; have := HK.out; omega) ?_; intro v9 w9 hv9 hg9; have HGr := hid (show World.grownBy _ w9 (Value.slice pa j pc).ownBlock from hg9); have HV9 := hid hv9; have HT9 := hid (fun (g : Nat) (hg : (Value.slice pa j pc).ownBlock = some g) => own_typed (Own.alloc (HO.out.of_ext (HXW.out.trans (show Ext W (ext W r3) from ⟨r3, rfl⟩))) (.cells #[.slice ha 1 hc3] 174 (0, 0))) hg); have HB69 := hid (((HB6.out.of (HXW.out.trans (show Ext W (ext W r3) from ⟨r3, rfl⟩))).alloc _).gro hg9 (HO.out.not_at hgZ)); have HB89 := hid (((HB8.out.of (show Ext W (ext W r3) from ⟨r3, rfl⟩)).alloc _).gro hg9 (fun he => by have := HO.out.tops _ he; have := HG8.out; omega)); have HS9 := hid (show _ ∧ _ ∧ _ ∧ _ from ⟨HB89.out.2.2 0 _ rfl, HB89.out.2.2 1 _ rfl, HB89.out.2.2 2 _ rfl, HB89.out.1⟩); have HS9s := hid (fun u => by have h := (Blk.other' (i := 0) (u := u) hg86 HB89.out); exact And.intro (h.2.2 0 _ rfl) (And.intro (h.2.2 1 _ rfl) (And.intro (h.2.2 2 _ rfl) h.1))); have HGN9 := hid ((HG.out.trans ((Grn.of_ext (HXW.out.trans (show Ext W (ext W r3) from ⟨r3, rfl⟩))).alloc _)).gro hg9 HO.out.bases); obtain ⟨a9, c9, hs9⟩ := Own.shape hv9; have hl9 : List.length (hs ++ [((ha, 1, hc3) : RHs)]) = q := (by rw [List.length_append, HE.out.1, HQ.out]; rfl); rw [hl9] at hs9; subst hs9; clear hl9; clear hv9 hg9; have q0 := HB69.out.2.1; have q1 := HB69.out.2.2 0 _ rfl; have q2 := HB69.out.1)
  have hOld := hHeld
  clear hHeld
  refine hK.out _ _ (by first | with_reducible exact HS9.out | with_reducible exact HS9s.out _ | exact HSt.out _ (by exact exF)) (fun hHeld => ?_)
  clear hOld hK K
  (try simp only [Act.put, pA, pB, pC])
  refine tkm 6 (v := ?_) rfl ?_ ?_
  rotate_left 1
  ·intro w hSw
   try dsimp only at hSw
   go_simp
   try with_reducible rfl
  (try simp only [Act.put, pA, pB, pC])
  refine take_only 7 (oi := ⟨_, _, _, _, _, _⟩) (by kernel_rfl) rfl (fun K hK => ?_)
  go_simp
  have hOld := hHeld
  clear hHeld
  refine hK.out _ _ (by first | with_reducible exact HS9.out | with_reducible exact HS9s.out _ | exact HSt.out _ (by exact exF)) (fun hHeld => ?_)
  clear hOld hK K
  (try simp only [Act.put, pA, pB, pC])
  refine wpAnyH_done (by kernel_rfl) ?_ _
  clear hHeld
  go_wp2_with fail
  go_roundw
  case rel =>
   refine ⟨q, a9, c9, hs ++ [(ha, 1, hc3)], by have := HQ.out; have := HJ.out; omega, by rw [hwj], hid (HB69.out.set 0 (by simp) _), hid (HV9.out.under hgZ _), hid ⟨by rw [List.length_append, HE.out.1, HQ.out]; rfl, fun i h x e1 e2 => ?_⟩, hid (HGN9.out.setCell _ _)⟩
   have hfin : ∀ l, HsR w9 (fun b => Z.heap.size ≤ b ∧ NewB [181] w w9 b) (.slice h.1 h.2.1 h.2.2) l → HsR (w9.setCell ⟨g6, 0, none⟩ (.slice a9 q c9)) (fun b => Z.heap.size ≤ b ∧ NewB [181] w (w9.setCell ⟨g6, 0, none⟩ (.slice a9 q c9)) b) (.slice h.1 h.2.1 h.2.2) l := fun l hl => (hl.kp (KpB.refl.setCell (fun hh => by have := hh.1; omega) _)).imp (fun b hh => ⟨hh.1, hh.2.to (Nat.le_refl _) (TyK.refl.setCell _ _)⟩)
   apply hfin
   by_cases hi : i < hs.length
   ·rw [List.getElem?_append_left hi] at e1
    exact grow_elem (HE.out.2 i h x e1 e2) ((HXW.out.trans (show Ext W (ext W r3) from ⟨r3, rfl⟩)).trans (Ext.of_alloc _ _)) HGr.out (fun g hg => (HT9.out g hg).2) (fun b h => h)
   ·rw [List.getElem?_append_right (by omega)] at e1
    have hi0 : i - hs.length = 0 := by
     have := (List.getElem?_eq_some_iff.1 e1).1
     simp at this; omega
    rw [hi0] at e1
    have he1 : h = (ha, 1, hc3) := by simpa using e1.symm
    have hij : i = j := by have := HE.out.1; omega
    rw [hij, HX.out] at e2
    have he2 : x = (x1, x2, x3) := by simpa using e2.symm
    rw [he1, he2]
    exact grow_elem (w1 := ext W r3) HH.out (Ext.of_alloc _ _) HGr.out (fun g hg => (HT9.out g hg).2) (fun b h => ⟨Nat.le_trans hzW h.1, (show NewB _ W (ext W r3) b from h).to (HXr.out.trans HXW.out).size TyK.refl⟩)
  case measure => have := HQ.out; have := HJ.out; rw [hwj]; show k - ((q : Int)).toNat < k - ((j : Int)).toNat; omega
 ·have hjk3 : j = k := by omega
  subst hjk3
  have hnk : ¬ ((j : Int) < (j : Int)) := by omega
  have h4 := HB4.out.grn HG.out (by have := HGs.out; omega)
  have a0 := HB6.out.2.2 0 _ rfl
  have a1 := HB6.out.2.2 1 _ rfl
  have ag := HB6.out.1
  have d0 := h4.2.2 0 _ rfl
  have d1 := h4.2.2 1 _ rfl
  have df := h4.2.1
  have dg := h4.1
  have HB4r := hid h4
  have hbv := blk_heap HGv.out
  have he := made_nil n
  rw [Nat.mul_one] at he
  rw [he] at hbv
  have HBv := hid (hbv.grn HG.out (by have := HGs.out; omega))
  have HW4 := hid (show w.heap.size ≤ g4' ∧ w.heap.size ≤ gv ∧ g4' < gv ∧ g4' < Z.heap.size by have := HGs.out; have := HB4.out.1; omega)
  have hwg := HW4.out.1
  have hzw := HXZ.out.size
  have hzr := HG.out.size
  have HTv := hid (show NewB memD w wr gv from by
   have h1 := HGv.out
   have h2 : wr.heap[gv]? = Z.heap[gv]? := HG.out.block gv (Array.getElem?_eq_some_iff.1 h1).1 (by have := HGs.out; simp; omega)
   exact ⟨HW4.out.2.1, _, h2.trans h1, List.mem_cons_self ..⟩)
  clear hjk hj h4 hbv he
  (repeat (first | go_values | go_skip | go_guarded | go_step | go_upon | (simp only [Int.not_lt, Int.not_le] at *; go_simp) | (go_ite <;> go_prune <;> (try go_simp))))
  refine bodyPost_ret (v := .tuple #[.agg #[.slice pa j pc, .slice (some ⟨gv, 0, none⟩) n n], .int .i64 0]) (by simp [results, Tryz.results75, go_sem, d0, d1, df, dg]) rfl ⟨pa, pc, _, _, rfl, by exact exF, ⟨hs, ?_, ?_, ?_⟩, List.replicate n none, ⟨?_, ?_⟩, by simp, ?_⟩
  ·exact ((Sp.ownN (w0 := w) (D := memD) hsE_len HO.out hzw (List.mem_cons_of_mem _ (List.mem_cons_self ..))).kp hsE_len ((KpB.refl.setCell (fun h => by have h1 := h.1; have := HW4.out.2.2.2; omega) _).setCell (fun h => by have h1 := h.1; have := HW4.out.2.2.2; omega) _)).imp (fun b h => h.2.to (Nat.le_refl _) (by exact tyP))
  ·rw [List.length_map, HE.out.1, HKl.out]
  ·intro i h l e1 e2
   rw [List.getElem?_map, Option.map_eq_some_iff] at e2
   obtain ⟨x, hx, rfl⟩ := e2
   exact ((HE.out.2 i h x e1 hx).kp ((KpB.refl.setCell (fun h => by have h1 := h.1; have := HW4.out.2.2.2; omega) _).setCell (fun h => by have h1 := h.1; have := HW4.out.2.2.2; omega) _)).imp (fun b h => (newMsg h.2).to (Nat.le_refl _) (by exact tyP))
  ·have hne : g4' ≠ gv := by have := HW4.out.2.2.1; omega
   have hsl : ∀ V, Blk V gv ((List.replicate n (none : Option Nat)).flatMap mqE) → Sl V 1 mqE (.slice (some ⟨gv, 0, none⟩) n n) (List.replicate n none) := fun V hV => by
    have h := sl_blk (c := n) (enc := mqE) mqE_len hV (by rw [List.length_replicate]; have := HN.out; omega) (by rw [List.length_replicate]; exact Nat.le_refl _)
    rw [List.length_replicate] at h
    exact h
   exact hsl _ (Blk.other' hne (Blk.other' hne HBv.out))
  ·exact fun _ a n c he => by
    simp only [Value.slice.injEq, Option.some.injEq] at he
    rw [← he.1]
    exact HTv.out.to (Nat.le_refl _) (by exact tyP)
  ·intro i q f e1 e2
   rw [List.getElem?_replicate] at e1 e2
   split at e1
   ·rw [if_pos (by assumption)] at e2
    cases e1; cases e2
    exact VwR.zero _ _
   ·cases e1
end Go.Proofs.YtiacdohaiidehaaGreatDoor
