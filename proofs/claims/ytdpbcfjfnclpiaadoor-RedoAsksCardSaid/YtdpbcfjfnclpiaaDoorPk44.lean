/- Walk of law 25's kind at the layout of RedoAsks (one thread, three cells, one block). -/
import Derived.Test.YtdpbcfjfnclpiaaDoorPk26
import Derived.Test.YtdpbcfjfnclpiaaDoorPk29
namespace Go.Proofs.YtdpbcfjfnclpiaaDoor
set_option linter.unusedSimpArgs false
set_option linter.unusedVariables false
open Go.RowKit
theorem size131 : sizeN 1 3 1 = 176 := by kernel_rfl
theorem right131 : rightN 1 3 1 = true := by kernel_rfl
def bitsW (j : Nat) : List Value := (List.range 176).map (fun i => Value.bool (decide (i < j) && mayN 1 3 1 i))
theorem bitsW_len (j : Nat) : (bitsW j).length = 176 := by simp [bitsW]
theorem blk_newsL {α : Type} {enc : α → List Value} {w : World} {b : Nat} {l : List α} (h : Blk w b (l.flatMap enc)) : ∀ (j : Nat) (u : Value), (l.flatMap enc)[j]? = some u → w.cell? ((⟨b, 0, none⟩ : Addr).add j) = some u := by
 intro j u hu
 have hadd : (⟨b, 0, none⟩ : Addr).add j = ⟨b, j, none⟩ := by unfold Addr.add; split <;> simp_all
 rw [hadd]
 exact h.2.2 j u hu
set_option maxRecDepth 100000 in
theorem bitsW_zero : (madeCells #[.bool false] (176 * 1)).toList = bitsW 0 := by
 rw [show (madeCells #[.bool false] (176 * 1)).toList = List.replicate 176 (.bool false) by kernel_rfl]
 unfold bitsW
 apply List.ext_getElem
 ·rw [List.length_replicate, List.length_map, List.length_range]
 ·intro i h1 h2; rw [List.getElem_replicate, List.getElem_map]; rfl
theorem bitsW_zero2 : (madeCells #[.bool false] 176).toList = bitsW 0 := bitsW_zero
theorem bitsW_yes {j : Nat} (hj : j < 176) (h : mayN 1 3 1 j = true) : (bitsW j).set j (.bool true) = bitsW (j + 1) := by
 unfold bitsW
 apply List.ext_getElem
 ·simp
 ·intro i h1 h2
  rw [List.getElem_set, List.getElem_map, List.getElem_map, List.getElem_range]
  split
  ·rename_i e; subst e; simp [h]
  ·rename_i e
   have : decide (i < j) = decide (i < j + 1) := by apply decide_eq_decide.2; omega
   rw [this]
theorem bitsW_no {j : Nat} (h : mayN 1 3 1 j = false) : bitsW j = bitsW (j + 1) := by
 unfold bitsW
 apply List.map_congr_left
 intro i _
 by_cases e : i = j
 ·subst e; simp [h]
 ·have : decide (i < j) = decide (i < j + 1) := by apply decide_eq_decide.2; omega
  rw [this]
theorem bitsW_all : bitsW 176 = (mayL 1 3 1 176).map Value.bool := by
 unfold bitsW mayL
 rw [List.map_map]
 apply List.map_congr_left
 intro i hi
 rw [List.mem_range] at hi
 simp [hi]
theorem bitsW_at {j : Nat} (hj : j < 176) : (bitsW j)[j]? = some (.bool false) := by
 unfold bitsW
 rw [List.getElem?_map, List.getElem?_range hj]
 simp
def KindPos1 (w : World) (y : Ending) (w' : World) : Prop := ∃ pv mv sv ov, y = .returned (.agg #[.int .i64 1, .int .i64 1, .int .i64 32, .int .i64 144, .int .i64 104, .int .i64 32, pv, .int .i64 176, mv, sv, ov]) ∧ (∃ r, w' = ext w r) ∧
 Sl w' 1 boE pv (mayL 1 3 1 176) ∧ Sl w' 1 locE mv (maysL 1 3 1) ∧ Sl w' 1 locE sv (statsL 1 3 1) ∧ Sl w' 1 locE ov (ownsL 1 3 1)
set_option maxRecDepth 100000 in
set_option maxHeartbeats 4000000 in
theorem kind131_any (w : World) (hs : Szs w) : Calls Tryd.prog 5 #[.agg #[.int .i64 1, .int .i64 3, .int .i64 1]] w fun y w' => KindPos1 w y w' := by
 have HS := hid hs
 have hmk : ∀ w : World, (Instr.makeSlice 26 (.int .i64 176) (.int .i64 176)).run Tryd.prog w = .ok (.slice (some ⟨w.heap.size, 0, none⟩) 176 176) (w.alloc (.cells (madeCells #[.bool false] (176 * 1)) 4)) := fun w => mk_bools 176 (by omega) w
 have HSl := hid (show atN 1 3 1 4 (wrap64 (1 - 1)) 0 = 32 by kernel_rfl)
 have HBl := hid (show atN 1 3 1 6 0 0 = 144 by kernel_rfl)
 have HSz := hid size131
 clear hs
 go_enter Tryd.func5, Tryd.ntmps5
 go_upto_region 1 with fail
 generalize hW : World.alloc (World.alloc _ _) _ = W
 have HB1 := hid (show Blk W w.heap.size [.int .i64 1, .int .i64 3, .int .i64 1] by rw [← hW]; (show Blk _ _ _; repeat first | (with_reducible first | (refine xH ?_; assumption) | refine bD ?_ | refine bX ?_ _) | (with_reducible refine bN _ _ rfl ?_; first | with_reducible rfl | (simp; done)) | (with_reducible first | refine bA ?_ _ | assumption | apply bS) | (with_reducible refine bO ?_ ?_; first | omega | (simp; omega)) | (show List.set _ _ _ = _; exact rfl) | (show _ < List.length _; simp; done)))
 have HB2 := hid (show Blk W (w.heap.size + 1) [.int .i64 0, .int .i64 0, .int .i64 0, .int .i64 0, .int .i64 0, .int .i64 0, .slice none 0 0, .int .i64 0, .slice none 0 0, .slice none 0 0, .slice none 0 0] by rw [← hW]; (show Blk _ _ _; repeat first | (with_reducible first | (refine xH ?_; assumption) | refine bD ?_ | refine bX ?_ _) | (with_reducible refine bN _ _ rfl ?_; first | with_reducible rfl | (simp; done)) | (with_reducible first | refine bA ?_ _ | assumption | apply bS) | (with_reducible refine bO ?_ ?_; first | omega | (simp; omega)) | (show List.set _ _ _ = _; exact rfl) | (show _ < List.length _; simp; done)))
 have HWx := hid (show Ext w W by rw [← hW]; (show Ext _ _; repeat first | (with_reducible first | (refine xH ?_; assumption) | exact xR _ | refine xX ?_ _ | refine xA ?_ _) | refine xD ?_ | refine xN ?_ _ | exact xR _))
 clear hW
 have HSW := hid (Szs.of HS.out HWx.out)
 obtain ⟨l0, l1, l2⟩ := HB1.out.three
 have l4 := HB1.out.1
 go_cut [3] (fun s3 wx => ∃ g gw : Nat, s3 = .pointer (some ⟨g, 0, none⟩) ∧ Blk wx g [.int .i64 1, .int .i64 1, .int .i64 32, .int .i64 144, .int .i64 104, .int .i64 32, .slice (some ⟨gw, 0, none⟩) 176 176, .int .i64 176, .slice none 0 0, .slice none 0 0, .slice none 0 0] ∧ Blk wx gw (bitsW 0) ∧ g ≠ gw ∧ Ext W wx ∧ W.heap.size ≤ g ∧ W.heap.size ≤ gw)
 case first =>
  have HL_ := hid (fun w' (h : Ext W w') => (And.intro (Nat.lt_of_lt_of_le l4 h.size) (And.intro (h.cell l0) (And.intro (h.cell l1) (h.cell l2)))))
  refine wp_region_facts [7, 8, 9, 10, 11, 12, 13, 14, 15, 16, 17, 18, 19, 20, 21, 3] [0, 1, 2, 3, 4, 5, 6, 7, 8, 9, 10, 11, 12, 13, 14, 15] rfl (fun w' => Ext W w') (fsAt [IsV ?_, IsV ?_, IsV ?_, IsV ?_, IsV ?_, IsV (.int .i64 32), IsV ?_, IsV (.int .i64 144), IsV ?_, IsV (.int .i64 176), (fun v w' => ∃ gw, v = .slice (some ⟨gw, 0, none⟩) 176 176 ∧ Blk w' gw (bitsW 0) ∧ W.heap.size ≤ gw), IsV ?_, IsV (.int .i64 176), (fun v w' => ∃ gw, v = .agg #[.int .i64 1, .int .i64 1, .int .i64 32, .int .i64 144, .int .i64 104, .int .i64 32, .slice (some ⟨gw, 0, none⟩) 176 176, .int .i64 176] ∧ Blk w' gw (bitsW 0) ∧ W.heap.size ≤ gw), (fun v w' => ∃ gw, v = .agg #[.int .i64 1, .int .i64 1, .int .i64 32, .int .i64 144, .int .i64 104, .int .i64 32, .slice (some ⟨gw, 0, none⟩) 176 176, .int .i64 176, .slice none 0 0, .slice none 0 0, .slice none 0 0] ∧ Blk w' gw (bitsW 0) ∧ W.heap.size ≤ gw), (fun v w' => ∃ g, v = .pointer (some ⟨g, 0, none⟩) ∧ Blk w' g [.int .i64 0, .int .i64 0, .int .i64 0, .int .i64 0, .int .i64 0, .int .i64 0, .slice none 0 0, .int .i64 0, .slice none 0 0, .slice none 0 0, .slice none 0 0] ∧ W.heap.size ≤ g)]) (by kernel_rfl) (by kernel_rfl) ((Ext.refl _).drew) (fun w w' h he => h.trans he) (AllOn.cons (fun _ _ _ h _ => h) (AllOn.cons (fun _ _ _ h _ => h) (AllOn.cons (fun _ _ _ h _ => h) (AllOn.cons (fun _ _ _ h _ => h) (AllOn.cons (fun _ _ _ h _ => h) (AllOn.cons (fun _ _ _ h _ => h) (AllOn.cons (fun _ _ _ h _ => h) (AllOn.cons (fun _ _ _ h _ => h) (AllOn.cons (fun _ _ _ h _ => h) (AllOn.cons (fun _ _ _ h _ => h) (AllOn.cons (fun _ _ _ h he => by obtain ⟨q, h1, h2, h3⟩ := h; exact ⟨q, h1, h2.of he, h3⟩) (AllOn.cons (fun _ _ _ h _ => h) (AllOn.cons (fun _ _ _ h _ => h) (AllOn.cons (fun _ _ _ h he => by obtain ⟨q, h1, h2, h3⟩ := h; exact ⟨q, h1, h2.of he, h3⟩) (AllOn.cons (fun _ _ _ h he => by obtain ⟨q, h1, h2, h3⟩ := h; exact ⟨q, h1, h2.of he, h3⟩) (AllOn.cons (fun _ _ _ h he => by obtain ⟨q, h1, h2, h3⟩ := h; exact ⟨q, h1, h2.of he, h3⟩) (AllOn.nil))))))))))))))))) (AllOn.cons ?_ (AllOn.cons ?_ (AllOn.cons ?_ (AllOn.cons ?_ (AllOn.cons ?_ (AllOn.cons ?_ (AllOn.cons ?_ (AllOn.cons ?_ (AllOn.cons ?_ (AllOn.cons ?_ (AllOn.cons ?_ (AllOn.cons ?_ (AllOn.cons ?_ (AllOn.cons ?_ (AllOn.cons ?_ (AllOn.cons ?_ (AllOn.nil))))))))))))))))) ?_
  rotate_left 8
  ·intro A w cx hO hD
   have e1 := evO hO 1 rfl
   clear hD hO
   refine head_val (o := ⟨_, _, _, _, _, _⟩) rfl ?_ rfl rfl ?_ ?_
   rotate_left 1
   ·simp [go_sem, e1, cx, HL_.out w cx]
    try with_reducible rfl
   ·exact IsV.mk (w := w)
  ·intro A w cx hO hD
   have e7 := evD (hD 0 (by kernel_rfl) 7 rfl)
   clear hD hO
   refine head_val (o := ⟨_, _, _, _, _, _⟩) rfl ?_ rfl rfl ?_ ?_
   rotate_left 1
   ·simp [go_sem, e7, cx, HL_.out w cx]
    try with_reducible rfl
   ·exact IsV.mk (w := w)
  ·intro A w cx hO hD
   have e1 := evO hO 1 rfl
   clear hD hO
   refine head_val (o := ⟨_, _, _, _, _, _⟩) rfl ?_ rfl rfl ?_ ?_
   rotate_left 1
   ·simp [go_sem, e1, cx, HL_.out w cx]
    try with_reducible rfl
   ·exact IsV.mk (w := w)
  ·intro A w cx hO hD
   have e9 := evD (hD 2 (by kernel_rfl) 9 rfl)
   clear hD hO
   refine head_val (o := ⟨_, _, _, _, _, _⟩) rfl ?_ rfl rfl ?_ ?_
   rotate_left 1
   ·simp [go_sem, e9, cx, HL_.out w cx]
    try with_reducible rfl
   ·exact IsV.mk (w := w)
  ·intro A w cx hO hD
   have e1 := evO hO 1 rfl
   clear hD hO
   refine head_val (o := ⟨_, _, _, _, _, _⟩) rfl ?_ rfl rfl ?_ ?_
   rotate_left 1
   ·simp [go_sem, e1, cx, HL_.out w cx]
    try with_reducible rfl
   ·exact IsV.mk (w := w)
  ·intro A w cx hO hD
   have e11 := evD (hD 4 (by kernel_rfl) 11 rfl)
   clear hD hO
   refine head_wp (o := ⟨_, _, _, _, _, _⟩) rfl rfl ?_
   simp [go_sem, e11]
   refine (slot_any 1 3 1 1 _ (HSW.out.of cx)).mono ?_
   rintro e w' ⟨rfl, r', rfl⟩
   rw [HSl.out]
   exact ⟨_, rfl, ⟨r', rfl⟩, rfl⟩
  ·intro A w cx hO hD
   have e1 := evO hO 1 rfl
   clear hD hO
   refine head_val (o := ⟨_, _, _, _, _, _⟩) rfl ?_ rfl rfl ?_ ?_
   rotate_left 1
   ·simp [go_sem, e1, cx, HL_.out w cx]
    try with_reducible rfl
   ·exact IsV.mk (w := w)
  ·intro A w cx hO hD
   have e13 := evD (hD 6 (by kernel_rfl) 13 rfl)
   clear hD hO
   refine head_wp (o := ⟨_, _, _, _, _, _⟩) rfl rfl ?_
   simp [go_sem, e13]
   refine (block_any 1 3 1 0 _ (HSW.out.of cx)).mono ?_
   rintro e w' ⟨rfl, r', rfl⟩
   rw [HBl.out]
   exact ⟨_, rfl, ⟨r', rfl⟩, rfl⟩
  ·intro A w cx hO hD
   have e1 := evO hO 1 rfl
   clear hD hO
   refine head_val (o := ⟨_, _, _, _, _, _⟩) rfl ?_ rfl rfl ?_ ?_
   rotate_left 1
   ·simp [go_sem, e1, cx, HL_.out w cx]
    try with_reducible rfl
   ·exact IsV.mk (w := w)
  ·intro A w cx hO hD
   have e15 := evD (hD 8 (by kernel_rfl) 15 rfl)
   clear hD hO
   refine head_wp (o := ⟨_, _, _, _, _, _⟩) rfl rfl ?_
   simp [go_sem, e15]
   refine (size_any 1 3 1 _ (HSW.out.of cx)).mono ?_
   rintro e w' ⟨rfl, r', rfl⟩
   rw [HSz.out]
   exact ⟨_, rfl, ⟨r', rfl⟩, rfl⟩
  ·intro A w cx hO hD
   have e16 := evD (hD 9 (by kernel_rfl) 16 rfl)
   clear hD hO
   refine head_wp (o := ⟨_, _, _, _, _, _⟩) rfl rfl ?_
   simp [go_sem, e16]
   exact ⟨_, rfl, Ext.of_alloc _ _, _, rfl, Blk.new _ _ bitsW_zero2 rfl, cx.size⟩
  ·intro A w cx hO hD
   have e1 := evO hO 1 rfl
   clear hD hO
   refine head_val (o := ⟨_, _, _, _, _, _⟩) rfl ?_ rfl rfl ?_ ?_
   rotate_left 1
   ·simp [go_sem, e1, cx, HL_.out w cx]
    try with_reducible rfl
   ·exact IsV.mk (w := w)
  ·intro A w cx hO hD
   have e18 := evD (hD 11 (by kernel_rfl) 18 rfl)
   clear hD hO
   refine head_wp (o := ⟨_, _, _, _, _, _⟩) rfl rfl ?_
   simp [go_sem, e18]
   refine (size_any 1 3 1 _ (HSW.out.of cx)).mono ?_
   rintro e w' ⟨rfl, r', rfl⟩
   rw [HSz.out]
   exact ⟨_, rfl, ⟨r', rfl⟩, rfl⟩
  ·intro A w cx hO hD
   have e8 := evD (hD 1 (by kernel_rfl) 8 rfl)
   have e10 := evD (hD 3 (by kernel_rfl) 10 rfl)
   have e12 := evD (hD 5 (by kernel_rfl) 12 rfl)
   have e14 := evD (hD 7 (by kernel_rfl) 14 rfl)
   have e17 := hD 10 (by kernel_rfl) 17 rfl
   rw [ev_tm] at e17
   have e19 := evD (hD 12 (by kernel_rfl) 19 rfl)
   clear hD hO
   refine head_wp (o := ⟨_, _, _, _, _, _⟩) rfl rfl ?_
   obtain ⟨gw, e17, h1, h2⟩ := e17
   simp [go_sem, e8, e10, e12, e14, e17, e19]
   exact ⟨_, rfl, Ext.refl _, gw, rfl, h1, h2⟩
  ·intro A w cx hO hD
   have e20 := hD 13 (by kernel_rfl) 20 rfl
   rw [ev_tm] at e20
   clear hD hO
   refine head_wp (o := ⟨_, _, _, _, _, _⟩) rfl rfl ?_
   obtain ⟨gw, e20, h1, h2⟩ := e20
   simp [go_sem, e20]
   exact ⟨_, rfl, Ext.refl _, gw, rfl, h1, h2⟩
  ·intro A w cx hO hD
   clear hD hO
   refine head_wp (o := ⟨_, _, _, _, _, _⟩) rfl rfl ?_
   simp [go_sem]
   exact ⟨_, rfl, Ext.of_alloc _ _, _, rfl, Blk.new _ _ rfl rfl, cx.size⟩
  intro u wx hC hF
  obtain ⟨f0, f1, f2, f3, f4, f5, f6, f7, f8, f9, f10, f11, f12, f13, f14, f15, _⟩ := hF
  have g0 : u 0 = _ := f0
  have g1 : u 1 = _ := f1
  have g2 : u 2 = _ := f2
  have g3 : u 3 = _ := f3
  have g4 : u 4 = _ := f4
  have g5 : u 5 = _ := f5
  have g6 : u 6 = _ := f6
  have g7 : u 7 = _ := f7
  have g8 : u 8 = _ := f8
  have g9 : u 9 = _ := f9
  obtain ⟨v10, g10⟩ : ∃ v, u 10 = v := ⟨_, rfl⟩
  rw [g10] at f10
  have g11 : u 11 = _ := f11
  have g12 : u 12 = _ := f12
  obtain ⟨v13, g13⟩ : ∃ v, u 13 = v := ⟨_, rfl⟩
  rw [g13] at f13
  obtain ⟨v14, g14⟩ : ∃ v, u 14 = v := ⟨_, rfl⟩
  rw [g14] at f14
  obtain ⟨v15, g15⟩ : ∃ v, u 15 = v := ⟨_, rfl⟩
  rw [g15] at f15
  simp only [fPut, Nat.zero_add, Nat.reduceAdd, g0, g1, g2, g3, g4, g5, g6, g7, g8, g9, g10, g11, g12, g13, g14, g15, Act.put, List.setIfInBounds_toArray, List.set_cons_zero, List.set_cons_succ, List.length_cons, List.length_nil, List.drop_succ_cons, List.drop_zero]
  clear g0 g1 g2 g3 g4 g5 g6 g7 g8 g9 g10 g11 g12 g13 g14 g15 f0 f1 f2 f3 f4 f5 f6 f7 f8 f9 f11 f12
  obtain ⟨gw, rfl, hw1, hw2⟩ := f14
  obtain ⟨g, rfl, hg1, hg2⟩ := f15
  have hgg : g ≠ gw := by intro h; subst h; have h1 := hw1.2.2 0 _ rfl; have h2 := hg1.2.2 0 _ rfl; rw [h1] at h2; cases h2
  have z0 := hg1.2.2 0 _ rfl
  have z1 := hg1.2.2 1 _ rfl
  have z2 := hg1.2.2 2 _ rfl
  have z3 := hg1.2.2 3 _ rfl
  have z4 := hg1.2.2 4 _ rfl
  have z5 := hg1.2.2 5 _ rfl
  have z6 := hg1.2.2 6 _ rfl
  have z7 := hg1.2.2 7 _ rfl
  have z8 := hg1.2.2 8 _ rfl
  have z9 := hg1.2.2 9 _ rfl
  have z10 := hg1.2.2 10 _ rfl
  have zg := hg1.1
  have zf := hg1.2.1
  have HX := hid hC
  have HG1 := hid hg1
  have HW1 := hid hw1
  have HGG := hid (And.intro hgg (And.intro hg2 hw2))
  clear hC hg1 hw1 hgg hg2 hw2
  go_wp2_with fail
  obtain ⟨V, hV, HV, hG2⟩ := st11 HG1.out (.int .i64 1) (.int .i64 1) (.int .i64 32) (.int .i64 144) (.int .i64 104) (.int .i64 32) (.slice (some ⟨gw, 0, none⟩) 176 176) (.int .i64 176) (.slice none 0 0) (.slice none 0 0) (.slice none 0 0)
  rw [hV]
  go_meet
  exact ⟨g, gw, rfl, HV, HW1.out.grn hG2 (fun h => HGG.out.1 h.symm), HGG.out.1, Ext.grn HX.out hG2 HGG.out.2.1, HGG.out.2.1, HGG.out.2.2⟩
 case rest =>
  obtain ⟨g, gw, rfl, hbg, hbw, hgg, hxw, hgW, hgwW⟩ := hcut
  have HBG := hid hbg
  have HBW := hid hbw
  have HXW := hid hxw
  have hgc := hbg.1
  have hgwc := hbw.1
  have hle := hxw.size
  clear hbg hbw hxw l0 l1 l2 l4
  go_wp2_with fail
  go_loopw [4] (fun i wr => ∃ j : Nat, j ≤ 176 ∧ i = .int .i64 j ∧ ∃ vv, Hid (Blk wr g [.int .i64 1, .int .i64 1, .int .i64 32, .int .i64 144, .int .i64 104, .int .i64 32, .slice (some ⟨gw, 0, none⟩) 176 176, .int .i64 176, vv, .slice none 0 0, .slice none 0 0]) ∧ Hid (Blk wr gw (bitsW j)) ∧ Hid (Li wr wc.heap.size vv (maysTo 1 3 1 j)) ∧ Hid (Ext W wr) ∧ wc.heap.size ≤ wr.heap.size) (fun i _ => 176 - (intOf i).toNat)
  case atStart => exact ⟨0, by omega, rfl, _, HBG, HBW, hid Own.nil, HXW, Nat.le_refl _⟩
  case round =>
  clear HBG HBW HXW
  obtain ⟨j, hj, rfl, vv, HBG, HBW, HO, HXW, hcr⟩ := hrel
  obtain ⟨l0, l1, l2⟩ := (HB1.out.of HXW.out).three
  have l4 := (HB1.out.of HXW.out).1
  by_cases hjn : j < 176
  ·have hjj : (j : Int) < 176 := by omega
   have b5 := HBG.out.1
   have b6 := HBG.out.2.2 6 _ rfl
   have b8 := HBG.out.2.2 8 _ rfl
   have f8 := HBG.out.2.1 8
   have c5 := HBW.out.1
   have d0 := HBW.out.2.2 j _ (bitsW_at hjn)
   have d1 := HBW.out.2.1 j
   have HLn := hid (maysTo_len 1 3 1 j)
   cases hm : mayN 1 3 1 j
   ·have HM := hid hm
    clear hm
    go_wp2_with fail
    refine (size_any 1 3 1 _ (HSW.out.of (HXW.out.trans (by (show Ext _ _; repeat first | (with_reducible first | (refine xH ?_; assumption) | exact xR _ | refine xX ?_ _ | refine xA ?_ _) | refine xD ?_ | refine xN ?_ _ | exact xR _))))).mono ?_
    rintro e w' ⟨rfl, r2, rfl⟩
    rw [HSz.out]
    go_wp2_with fail
    refine (may_any 1 3 1 j (by omega) (by omega) _ (HSW.out.of (HXW.out.trans (by (show Ext _ _; repeat first | (with_reducible first | (refine xH ?_; assumption) | exact xR _ | refine xX ?_ _ | refine xA ?_ _) | refine xD ?_ | refine xN ?_ _ | exact xR _))))).mono ?_
    rintro e w' ⟨rfl, r3, rfl⟩
    rw [HM.out]
    go_wp2_with fail
    go_roundw
    case rel => exact ⟨j + 1, by omega, by go_num, vv, hid (HBG.out.of (by (show Ext _ _; repeat first | (with_reducible first | (refine xH ?_; assumption) | exact xR _ | refine xX ?_ _ | refine xA ?_ _) | refine xD ?_ | refine xN ?_ _ | exact xR _))), hid (by rw [← bitsW_no HM.out]; exact HBW.out.of (by (show Ext _ _; repeat first | (with_reducible first | (refine xH ?_; assumption) | exact xR _ | refine xX ?_ _ | refine xA ?_ _) | refine xD ?_ | refine xN ?_ _ | exact xR _))), hid (by rw [maysTo_no HM.out]; exact HO.out.of_ext (by (show Ext _ _; repeat first | (with_reducible first | (refine xH ?_; assumption) | exact xR _ | refine xX ?_ _ | refine xA ?_ _) | refine xD ?_ | refine xN ?_ _ | exact xR _))), hid (HXW.out.trans (by (show Ext _ _; repeat first | (with_reducible first | (refine xH ?_; assumption) | exact xR _ | refine xX ?_ _ | refine xA ?_ _) | refine xD ?_ | refine xN ?_ _ | exact xR _))), Nat.le_trans hcr (by (first | exact Nat.le_refl _ | (simp; done) | (simp; omega)))⟩
    case measure => simp [intOf]; omega
   ·have HM := hid hm
    clear hm
    go_wp2_with fail
    refine (size_any 1 3 1 _ (HSW.out.of (HXW.out.trans (by (show Ext _ _; repeat first | (with_reducible first | (refine xH ?_; assumption) | exact xR _ | refine xX ?_ _ | refine xA ?_ _) | refine xD ?_ | refine xN ?_ _ | exact xR _))))).mono ?_
    rintro e w' ⟨rfl, r2, rfl⟩
    rw [HSz.out]
    go_wp2_with fail
    refine (may_any 1 3 1 j (by omega) (by omega) _ (HSW.out.of (HXW.out.trans (by (show Ext _ _; repeat first | (with_reducible first | (refine xH ?_; assumption) | exact xR _ | refine xX ?_ _ | refine xA ?_ _) | refine xD ?_ | refine xN ?_ _ | exact xR _))))).mono ?_
    rintro e w' ⟨rfl, r3, rfl⟩
    rw [HM.out]
    go_upto_region 7 with fail
    generalize hY : World.setCell _ _ _ = Y
    have HBGY := hid (show Blk Y g _ by rw [← hY]; exact (HBG.out.of (by (show Ext _ _; repeat first | (with_reducible first | (refine xH ?_; assumption) | exact xR _ | refine xX ?_ _ | refine xA ?_ _) | refine xD ?_ | refine xN ?_ _ | exact xR _))).other (fun e => hgg e.symm) _)
    have HBWY := hid (show Blk Y gw (bitsW (j + 1)) by rw [← hY, ← bitsW_yes hjn HM.out]; exact (HBW.out.of (by (show Ext _ _; repeat first | (with_reducible first | (refine xH ?_; assumption) | exact xR _ | refine xX ?_ _ | refine xA ?_ _) | refine xD ?_ | refine xN ?_ _ | exact xR _))).set j (by rw [bitsW_len]; omega) _)
    have HOY := hid (show Li Y wc.heap.size vv (maysTo 1 3 1 j) by rw [← hY]; exact Own.under (HO.out.of_ext (by (show Ext _ _; repeat first | (with_reducible first | (refine xH ?_; assumption) | exact xR _ | refine xX ?_ _ | refine xA ?_ _) | refine xD ?_ | refine xN ?_ _ | exact xR _))) hgwc _)
    have HXY := hid (show Ext W Y by rw [← hY]; exact Ext.setCell (HXW.out.trans (by (show Ext _ _; repeat first | (with_reducible first | (refine xH ?_; assumption) | exact xR _ | refine xX ?_ _ | refine xA ?_ _) | refine xD ?_ | refine xN ?_ _ | exact xR _))) hgwW _)
    have hcY : wc.heap.size ≤ Y.heap.size := by rw [← hY, World.size_setCell]; exact Nat.le_trans hcr (by (first | exact Nat.le_refl _ | (simp; done) | (simp; omega)))
    clear hY b5 b6 b8 f8 c5 d0 d1 l0 l1 l2 l4 HBG HBW HO HXW
    have b5 := HBGY.out.1
    have b8 := HBGY.out.2.2 8 _ rfl
    obtain ⟨av, cv, hvv⟩ := Own.shape HOY.out
    subst hvv
    go_wp2_with (at_builtin; refine li_append_gb rfl _ _ rfl (by (first | exact Nat.le_refl _ | (simp; done) | (simp; omega))) rfl (Own.alloc HOY.out _) _ 1 1 rfl [j] rfl (news_new rfl _ (by (first | rfl | (simp; done)))) (by have := HLn.out; omega) ?_; rintro v9 w9 hv9 hg9 ha9; have HV9 := hid hv9; have HG9 := hid hg9; have HBG9 := hid ((HBGY.out.alloc _).gro hg9 (HOY.out.not_at hgc)); have HBW9 := hid ((HBWY.out.alloc _).gro hg9 (HOY.out.not_at hgwc)); have HX9 := hid ((HXY.out.alloc _).gro hg9 (fun b hb => by have := HOY.out.bases b hb; omega)); have h9 := hg9.size; rw [World.size_alloc] at h9; obtain ⟨a9, c9, hs9⟩ := Own.shape HV9.out; subst hs9; simp only [List.length_append, List.length_cons, List.length_nil, Nat.zero_add] at *; clear hv9 hg9 ha9; have q0 := HBG9.out.2.1 8; have q1 := HBG9.out.2.2 8 _ rfl; have q2 := HBG9.out.1)
    go_roundw
    case rel => exact ⟨j + 1, by omega, by go_num, _, hid (HBG9.out.set 8 (by simp) _), hid (HBW9.out.other hgg _), hid (by rw [maysTo_yes HM.out]; exact Own.under HV9.out hgc _), hid (HX9.out.setCell (by dsimp only; omega) _), by rw [World.size_setCell]; omega⟩
    case measure => simp [intOf]; omega
  have hjj : ¬ (j : Int) < 176 := by omega
  have HML := hid (show maysTo 1 3 1 j = maysL 1 3 1 by rw [show j = 176 by omega]; unfold maysL; rw [size131]; rfl)
  have HBJ := hid (show bitsW j = (mayL 1 3 1 176).map Value.bool by rw [show j = 176 by omega]; exact bitsW_all)
  clear hj hjn
  go_wp2_with fail
  refine (size_any 1 3 1 _ (HSW.out.of (HXW.out.trans (by (show Ext _ _; repeat first | (with_reducible first | (refine xH ?_; assumption) | exact xR _ | refine xX ?_ _ | refine xA ?_ _) | refine xD ?_ | refine xN ?_ _ | exact xR _))))).mono ?_
  rintro e w' ⟨rfl, r2, rfl⟩
  rw [HSz.out]
  go_wp2_with fail
  generalize hZ : ext _ r2 = Z
  have HBGZ := hid (show Blk Z g _ by rw [← hZ]; exact HBG.out.of (by (show Ext _ _; repeat first | (with_reducible first | (refine xH ?_; assumption) | exact xR _ | refine xX ?_ _ | refine xA ?_ _) | refine xD ?_ | refine xN ?_ _ | exact xR _)))
  have HBWZ := hid (show Blk Z gw ((mayL 1 3 1 176).map Value.bool) by rw [← hZ, ← HBJ.out]; exact HBW.out.of (by (show Ext _ _; repeat first | (with_reducible first | (refine xH ?_; assumption) | exact xR _ | refine xX ?_ _ | refine xA ?_ _) | refine xD ?_ | refine xN ?_ _ | exact xR _)))
  have HOMZ := hid (show Li Z wc.heap.size vv (maysL 1 3 1) by rw [← hZ, ← HML.out]; exact HO.out.of_ext (by (show Ext _ _; repeat first | (with_reducible first | (refine xH ?_; assumption) | exact xR _ | refine xX ?_ _ | refine xA ?_ _) | refine xD ?_ | refine xN ?_ _ | exact xR _)))
  have HXZ := hid (show Ext W Z by rw [← hZ]; exact HXW.out.trans (by (show Ext _ _; repeat first | (with_reducible first | (refine xH ?_; assumption) | exact xR _ | refine xX ?_ _ | refine xA ?_ _) | refine xD ?_ | refine xN ?_ _ | exact xR _)))
  have hgZ : g < Z.heap.size := HBGZ.out.1
  have hgwZ : gw < Z.heap.size := HBWZ.out.1
  have hWZ := HXZ.out.size
  clear hZ HBG HBW HO HXW HML HBJ l0 l1 l2 l4 hjj
  obtain ⟨l0, l1, l2⟩ := HB1.out.three
  have lw := HB1.out.1
  have HSt := hid (fun w' (h : Ext W w') => And.intro (h.cell l0) (And.intro (h.cell l1) (h.cell l2)))
  go_loopw [5] (fun i wk => ∃ t : Nat, t ≤ 1 ∧ i = .int .i64 (t + 1 : Nat) ∧ ∃ v9 v10, Hid (Blk wk g [.int .i64 1, .int .i64 1, .int .i64 32, .int .i64 144, .int .i64 104, .int .i64 32, .slice (some ⟨gw, 0, none⟩) 176 176, .int .i64 176, vv, v9, v10]) ∧ Hid (Li wk Z.heap.size v9 (slotTo 1 3 1 t)) ∧ Hid (Li wk Z.heap.size v10 (ownTo 1 3 1 t)) ∧ Hid (Two v9 v10) ∧ Hid (Grn g Z wk)) (fun i _ => 4 - (intOf i).toNat)
  case atStart => exact ⟨0, by omega, rfl, _, _, HBGZ, hid Own.nil, hid Own.nil, hid (Two.nil _), hid Grn.refl⟩
  case round =>
  clear HBGZ
  obtain ⟨t, ht, rfl, v9, v10, HBG, HO9, HO10, HTW, HG⟩ := hrel
  have HXk := hid (HXZ.out.grn HG.out hgW)
  have hzk := HG.out.size
  have m0 := HXk.out.cell l0
  have m1 := HXk.out.cell l1
  have m2 := HXk.out.cell l2
  have m4 := (HB1.out.of HXk.out).1
  by_cases ht3 : t < 1
  ·have htt : ((t + 1 : Nat) : Int) ≤ 1 := by omega
   obtain ⟨p, hp⟩ : ∃ p, p = (atN 1 3 1 4 t 0).toNat := ⟨_, rfl⟩
   obtain ⟨p1, hp1⟩ : ∃ p, p = (atN 1 3 1 1 t 0).toNat := ⟨_, rfl⟩
   obtain ⟨p2, hp2⟩ : ∃ p, p = (atN 1 3 1 1 t 1).toNat := ⟨_, rfl⟩
   have HAt := hid (slot_pos right131 (k := t) (by omega))
   have HA0 := hid (own_pos right131 (k := t) (by omega) 0 (by omega))
   have HA1 := hid (own_pos right131 (k := t) (by omega) 1 (by omega))
   have HSc := hid (slotTo_succ 1 3 1 t)
   have HOc := hid (ownTo_succ 1 3 1 t)
   have HL9 := hid (slotTo_len 1 3 1 t)
   have HL10 := hid (ownTo_len 1 3 1 t)
   rw [← hp] at HAt HSc
   rw [← hp1] at HA0 HOc
   rw [← hp2] at HA1 HOc
   clear hp hp1 hp2
   obtain ⟨av9, cv9, hs9⟩ := Own.shape HO9.out
   obtain ⟨av10, cv10, hs10⟩ := Own.shape HO10.out
   subst hs9 hs10
   have b9 := HBG.out.2.2 9 _ rfl
   have f9 := HBG.out.2.1 9
   have b5 := HBG.out.1
   go_upto_region 11 with fail
   go_cut [] (fun wx => ∃ u9, Hid (Blk wx g [.int .i64 1, .int .i64 1, .int .i64 32, .int .i64 144, .int .i64 104, .int .i64 32, .slice (some ⟨gw, 0, none⟩) 176 176, .int .i64 176, vv, u9, .slice av10 (ownTo 1 3 1 t).length cv10]) ∧ Hid (Li wx Z.heap.size u9 (slotTo 1 3 1 (t + 1))) ∧ Hid (Li wx Z.heap.size (.slice av10 (ownTo 1 3 1 t).length cv10) (ownTo 1 3 1 t)) ∧ Hid (Two u9 (.slice av10 (ownTo 1 3 1 t).length cv10)) ∧ Hid (Grn g Z wx))
   case first =>
    have HL_ := hid (fun w' (h : Ext wr w') => (And.intro (Nat.lt_of_lt_of_le m4 h.size) (And.intro (Nat.lt_of_lt_of_le b5 h.size) (And.intro (h.cell m0) (And.intro (h.cell m1) (And.intro (h.cell m2) (h.cell b9)))))))
    refine wp_region_facts [48, 49, 50, 51, 52, 53] [0, 1, 2, 3, 4, 5] rfl (fun w' => Ext wr w') (fsAt [IsV ?_, IsV ?_, IsV ?_, IsV ?_, IsV (.int .i64 (p : Int)), (fun v w' => ∃ q, v = .slice (some ⟨q, 0, none⟩) 1 1 ∧ Blk w' q ([p].flatMap locE))]) (by kernel_rfl) (by kernel_rfl) ((Ext.refl _).drew) (fun w w' h he => h.trans he) (AllOn.cons (fun _ _ _ h _ => h) (AllOn.cons (fun _ _ _ h _ => h) (AllOn.cons (fun _ _ _ h _ => h) (AllOn.cons (fun _ _ _ h _ => h) (AllOn.cons (fun _ _ _ h _ => h) (AllOn.cons (fun _ _ _ h he => by obtain ⟨q, h1, h2⟩ := h; exact ⟨q, h1, h2.of he⟩) (AllOn.nil))))))) (AllOn.cons ?_ (AllOn.cons ?_ (AllOn.cons ?_ (AllOn.cons ?_ (AllOn.cons ?_ (AllOn.cons ?_ (AllOn.nil))))))) ?_
    rotate_left 4
    ·intro A w cx hO hD
     have e3 := evO hO 3 rfl
     clear hD hO
     refine head_val (o := ⟨_, _, _, _, _, _⟩) rfl ?_ rfl rfl ?_ ?_
     rotate_left 1
     ·simp [go_sem, e3, cx, HL_.out w cx]
      try with_reducible rfl
     ·exact IsV.mk (w := w)
    ·intro A w cx hO hD
     have e48 := evD (hD 0 (by kernel_rfl) 48 rfl)
     clear hD hO
     refine head_val (o := ⟨_, _, _, _, _, _⟩) rfl ?_ rfl rfl ?_ ?_
     rotate_left 1
     ·simp [go_sem, e48, cx, HL_.out w cx]
      try with_reducible rfl
     ·exact IsV.mk (w := w)
    ·intro A w cx hO hD
     have e1 := evO hO 1 rfl
     clear hD hO
     refine head_val (o := ⟨_, _, _, _, _, _⟩) rfl ?_ rfl rfl ?_ ?_
     rotate_left 1
     ·simp [go_sem, e1, cx, HL_.out w cx]
      try with_reducible rfl
     ·exact IsV.mk (w := w)
    ·intro A w cx hO hD
     have e5 := evO hO 5 rfl
     clear hD hO
     refine head_val (o := ⟨_, _, _, _, _, _⟩) rfl ?_ rfl rfl ?_ ?_
     rotate_left 1
     ·simp [go_sem, e5, cx, HL_.out w cx]
      try with_reducible rfl
     ·exact IsV.mk (w := w)
    ·intro A w cx hO hD
     have e50 := evD (hD 2 (by kernel_rfl) 50 rfl)
     have e51 := evD (hD 3 (by kernel_rfl) 51 rfl)
     clear hD hO
     refine head_wp (o := ⟨_, _, _, _, _, _⟩) rfl rfl ?_
     simp [go_sem, e50, e51]
     refine (slot_any 1 3 1 ((t : Int) + 1) _ (HSW.out.of (HXk.out.trans cx))).mono ?_
     rintro e w' ⟨rfl, r', rfl⟩
     rw [HAt.out]
     exact ⟨_, rfl, ⟨r', rfl⟩, rfl⟩
    ·intro A w cx hO hD
     have e52 := evD (hD 4 (by kernel_rfl) 52 rfl)
     clear hD hO
     refine head_wp (o := ⟨_, _, _, _, _, _⟩) rfl rfl ?_
     simp [go_sem, e52]
     exact ⟨_, rfl, Ext.of_alloc _ _, _, rfl, Blk.new _ _ rfl rfl⟩
    intro u wx hC hF
    obtain ⟨f0, f1, f2, f3, f4, f5, _⟩ := hF
    have g0 : u 0 = _ := f0
    have g1 : u 1 = _ := f1
    have g2 : u 2 = _ := f2
    have g3 : u 3 = _ := f3
    have g4 : u 4 = _ := f4
    obtain ⟨v5, g5⟩ : ∃ v, u 5 = v := ⟨_, rfl⟩
    rw [g5] at f5
    simp only [fPut, Nat.zero_add, Nat.reduceAdd, g0, g1, g2, g3, g4, g5, Act.put, List.setIfInBounds_toArray, List.set_cons_zero, List.set_cons_succ, List.length_cons, List.length_nil, List.drop_succ_cons, List.drop_zero]
    clear g0 g1 g2 g3 g4 g5 f0 f1 f2 f3 f4
    obtain ⟨q, hs, hq⟩ := f5
    subst hs
    have HQ := hid hq
    have HWK := hid hC
    clear hq hC
    go_wp2_with (at_builtin; refine li_append_gb rfl _ _ rfl (by have := HWK.out.size; omega) rfl (HO9.out.of_ext HWK.out) _ 1 1 rfl [p] rfl (blk_newsL HQ.out) (by have := HL9.out; omega) ?_; rintro v9 w9 hv9 hg9 ha9; have HV9 := hid hv9; have HBG9 := hid ((HBG.out.of HWK.out).gro hg9 (HO9.out.not_at hgZ)); have HOT9 := hid ((HO10.out.of_ext HWK.out).gro hg9 (HTW.out.symm)); have HTW9 := hid (Two.next (HTW.out) (HO10.out.of_ext HWK.out).tops ha9); have HGN9 := hid ((HG.out.trans (Grn.of_ext HWK.out)).gro hg9 HO9.out.bases); have HX9 := hid (HXZ.out.grn HGN9.out hgW); obtain ⟨a9, c9, hs9⟩ := Own.shape hv9; subst hs9; simp only [List.length_append, List.length_cons, List.length_nil, Nat.zero_add] at *; clear hv9 hg9 ha9; have q0 := HBG9.out.2.1 9; have q1 := HBG9.out.2.2 9 _ rfl; have q2 := HBG9.out.1)
    go_wp2_with fail
    go_meet
    exact ⟨_, hid (HBG9.out.set 9 (by simp) _), hid (by rw [HSc.out]; exact HV9.out.under hgZ _), hid (HOT9.out.under hgZ _), HTW9, hid (HGN9.out.setCell _ _)⟩
   case rest =>
   clear HBG HO9 HO10 HTW HG HXk hzk m0 m1 m2 m4 b9 f9 b5
   obtain ⟨u9, HBG, HO9, HO10, HTW, HG⟩ := hcut
   have HXk := hid (HXZ.out.grn HG.out hgW)
   have hzk := HG.out.size
   have m0 := HXk.out.cell l0
   have m1 := HXk.out.cell l1
   have m2 := HXk.out.cell l2
   have m4 := (HB1.out.of HXk.out).1
   have b9 := HBG.out.2.2 10 _ rfl
   have f9 := HBG.out.2.1 10
   have b5 := HBG.out.1
   go_upto_region 12 with fail
   have HL_ := hid (fun w' (h : Ext wc w') => (And.intro (Nat.lt_of_lt_of_le m4 h.size) (And.intro (Nat.lt_of_lt_of_le b5 h.size) (And.intro (h.cell m0) (And.intro (h.cell m1) (And.intro (h.cell m2) (h.cell b9)))))))
   refine wp_region_facts [56, 57, 58, 59, 60, 61, 62, 63, 64] [0, 1, 2, 3, 4, 5, 6, 7, 8] rfl (fun w' => Ext wc w') (fsAt [IsV ?_, IsV ?_, IsV ?_, IsV ?_, IsV (.int .i64 (p1 : Int)), IsV ?_, IsV ?_, IsV (.int .i64 (p2 : Int)), (fun v w' => ∃ q, v = .slice (some ⟨q, 0, none⟩) 2 2 ∧ Blk w' q ([p1, p2].flatMap locE))]) (by kernel_rfl) (by kernel_rfl) ((Ext.refl _).drew) (fun w w' h he => h.trans he) (AllOn.cons (fun _ _ _ h _ => h) (AllOn.cons (fun _ _ _ h _ => h) (AllOn.cons (fun _ _ _ h _ => h) (AllOn.cons (fun _ _ _ h _ => h) (AllOn.cons (fun _ _ _ h _ => h) (AllOn.cons (fun _ _ _ h _ => h) (AllOn.cons (fun _ _ _ h _ => h) (AllOn.cons (fun _ _ _ h _ => h) (AllOn.cons (fun _ _ _ h he => by obtain ⟨q, h1, h2⟩ := h; exact ⟨q, h1, h2.of he⟩) (AllOn.nil)))))))))) (AllOn.cons ?_ (AllOn.cons ?_ (AllOn.cons ?_ (AllOn.cons ?_ (AllOn.cons ?_ (AllOn.cons ?_ (AllOn.cons ?_ (AllOn.cons ?_ (AllOn.cons ?_ (AllOn.nil)))))))))) ?_
   rotate_left 6
   ·intro A w cx hO hD
    have e3 := evO hO 3 rfl
    clear hD hO
    refine head_val (o := ⟨_, _, _, _, _, _⟩) rfl ?_ rfl rfl ?_ ?_
    rotate_left 1
    ·simp [go_sem, e3, cx, HL_.out w cx]
     try with_reducible rfl
    ·exact IsV.mk (w := w)
   ·intro A w cx hO hD
    have e56 := evD (hD 0 (by kernel_rfl) 56 rfl)
    clear hD hO
    refine head_val (o := ⟨_, _, _, _, _, _⟩) rfl ?_ rfl rfl ?_ ?_
    rotate_left 1
    ·simp [go_sem, e56, cx, HL_.out w cx]
     try with_reducible rfl
    ·exact IsV.mk (w := w)
   ·intro A w cx hO hD
    have e1 := evO hO 1 rfl
    clear hD hO
    refine head_val (o := ⟨_, _, _, _, _, _⟩) rfl ?_ rfl rfl ?_ ?_
    rotate_left 1
    ·simp [go_sem, e1, cx, HL_.out w cx]
     try with_reducible rfl
    ·exact IsV.mk (w := w)
   ·intro A w cx hO hD
    have e5 := evO hO 5 rfl
    clear hD hO
    refine head_val (o := ⟨_, _, _, _, _, _⟩) rfl ?_ rfl rfl ?_ ?_
    rotate_left 1
    ·simp [go_sem, e5, cx, HL_.out w cx]
     try with_reducible rfl
    ·exact IsV.mk (w := w)
   ·intro A w cx hO hD
    have e58 := evD (hD 2 (by kernel_rfl) 58 rfl)
    have e59 := evD (hD 3 (by kernel_rfl) 59 rfl)
    clear hD hO
    refine head_wp (o := ⟨_, _, _, _, _, _⟩) rfl rfl ?_
    simp [go_sem, e58, e59]
    refine (announce_any 1 3 1 ((t : Int) + 1) _ (HSW.out.of (HXk.out.trans cx))).mono ?_
    rintro e w' ⟨rfl, r', rfl⟩
    rw [HA0.out]
    exact ⟨_, rfl, ⟨r', rfl⟩, rfl⟩
   ·intro A w cx hO hD
    have e1 := evO hO 1 rfl
    clear hD hO
    refine head_val (o := ⟨_, _, _, _, _, _⟩) rfl ?_ rfl rfl ?_ ?_
    rotate_left 1
    ·simp [go_sem, e1, cx, HL_.out w cx]
     try with_reducible rfl
    ·exact IsV.mk (w := w)
   ·intro A w cx hO hD
    have e5 := evO hO 5 rfl
    clear hD hO
    refine head_val (o := ⟨_, _, _, _, _, _⟩) rfl ?_ rfl rfl ?_ ?_
    rotate_left 1
    ·simp [go_sem, e5, cx, HL_.out w cx]
     try with_reducible rfl
    ·exact IsV.mk (w := w)
   ·intro A w cx hO hD
    have e61 := evD (hD 5 (by kernel_rfl) 61 rfl)
    have e62 := evD (hD 6 (by kernel_rfl) 62 rfl)
    clear hD hO
    refine head_wp (o := ⟨_, _, _, _, _, _⟩) rfl rfl ?_
    simp [go_sem, e61, e62]
    refine (hazard_any 1 3 1 ((t : Int) + 1) _ (HSW.out.of (HXk.out.trans cx))).mono ?_
    rintro e w' ⟨rfl, r', rfl⟩
    rw [HA1.out]
    exact ⟨_, rfl, ⟨r', rfl⟩, rfl⟩
   ·intro A w cx hO hD
    have e60 := evD (hD 4 (by kernel_rfl) 60 rfl)
    have e63 := evD (hD 7 (by kernel_rfl) 63 rfl)
    clear hD hO
    refine head_wp (o := ⟨_, _, _, _, _, _⟩) rfl rfl ?_
    simp [go_sem, e60, e63]
    exact ⟨_, rfl, Ext.of_alloc _ _, _, rfl, Blk.new _ _ rfl rfl⟩
   intro u wx hC hF
   obtain ⟨f0, f1, f2, f3, f4, f5, f6, f7, f8, _⟩ := hF
   have g0 : u 0 = _ := f0
   have g1 : u 1 = _ := f1
   have g2 : u 2 = _ := f2
   have g3 : u 3 = _ := f3
   have g4 : u 4 = _ := f4
   have g5 : u 5 = _ := f5
   have g6 : u 6 = _ := f6
   have g7 : u 7 = _ := f7
   obtain ⟨v8, g8⟩ : ∃ v, u 8 = v := ⟨_, rfl⟩
   rw [g8] at f8
   simp only [fPut, Nat.zero_add, Nat.reduceAdd, g0, g1, g2, g3, g4, g5, g6, g7, g8, Act.put, List.setIfInBounds_toArray, List.set_cons_zero, List.set_cons_succ, List.length_cons, List.length_nil, List.drop_succ_cons, List.drop_zero]
   clear g0 g1 g2 g3 g4 g5 g6 g7 g8 f0 f1 f2 f3 f4 f5 f6 f7
   obtain ⟨q, hs, hq⟩ := f8
   subst hs
   have HQ := hid hq
   have HWK := hid hC
   clear hq hC
   go_wp2_with (at_builtin; refine li_append_gb rfl _ _ rfl (by have := HWK.out.size; omega) rfl (HO10.out.of_ext HWK.out) _ 2 2 rfl [p1, p2] rfl (blk_newsL HQ.out) (by have := HL10.out; omega) ?_; rintro v9 w9 hv9 hg9 ha9; have HV9 := hid hv9; have HBG9 := hid ((HBG.out.of HWK.out).gro hg9 (HO10.out.not_at hgZ)); have HOT9 := hid ((HO9.out.of_ext HWK.out).gro hg9 (HTW.out)); have HTW9 := hid (Two.next (HTW.out.symm) (HO9.out.of_ext HWK.out).tops ha9); have HGN9 := hid ((HG.out.trans (Grn.of_ext HWK.out)).gro hg9 HO10.out.bases); have HX9 := hid (HXZ.out.grn HGN9.out hgW); obtain ⟨a9, c9, hs9⟩ := Own.shape hv9; subst hs9; simp only [List.length_append, List.length_cons, List.length_nil, Nat.zero_add] at *; clear hv9 hg9 ha9; have q0 := HBG9.out.2.1 10; have q1 := HBG9.out.2.2 10 _ rfl; have q2 := HBG9.out.1)
   go_wp2_with fail
   go_roundw
   case rel => exact ⟨t + 1, by omega, by go_num, _, _, hid (HBG9.out.set 10 (by simp) _), hid (HOT9.out.under hgZ _), hid (by rw [HOc.out]; exact HV9.out.under hgZ _), hid HTW9.out.symm, hid (HGN9.out.setCell _ _)⟩
   case measure => simp [intOf]; omega
  have htt : ¬ ((t + 1 : Nat) : Int) ≤ 1 := by omega
  have HT3 := hid (show t = 1 by omega)
  have HX9s := hid (show slotTo 1 3 1 t = slotTo 1 3 1 1 by rw [HT3.out])
  have HX10s := hid (show ownTo 1 3 1 t = ownsL 1 3 1 by rw [HT3.out]; rfl)
  rw [HX9s.out] at HO9
  rw [HX10s.out] at HO10
  clear HT3 HX9s HX10s ht ht3
  go_wp2_with fail
  go_loopw [6] (fun i wk => ∃ k : Nat, k ≤ 1 ∧ i = .int .i64 k ∧ ∃ v9, Hid (Blk wk g [.int .i64 1, .int .i64 1, .int .i64 32, .int .i64 144, .int .i64 104, .int .i64 32, .slice (some ⟨gw, 0, none⟩) 176 176, .int .i64 176, vv, v9, v10]) ∧ Hid (Li wk Z.heap.size v9 (slotTo 1 3 1 1 ++ blockTo 1 3 1 k)) ∧ Hid (Li wk Z.heap.size v10 (ownsL 1 3 1)) ∧ Hid (Two v9 v10) ∧ Hid (Grn g Z wk)) (fun i _ => 1 - (intOf i).toNat)
  case atStart => exact ⟨0, by omega, rfl, _, HBG, hid (by simpa [blockTo] using HO9.out), HO10, HTW, HG⟩
  case round =>
  clear HBG HO9 HO10 HTW HG HXk hzk m0 m1 m2 m4 htt
  obtain ⟨k, hk, rfl, v9, HBG, HO9, HO10, HTW, HG⟩ := hrel
  have HXk := hid (HXZ.out.grn HG.out hgW)
  have hzk := HG.out.size
  have m0 := HXk.out.cell l0
  have m1 := HXk.out.cell l1
  have m2 := HXk.out.cell l2
  have m4 := (HB1.out.of HXk.out).1
  by_cases hk1 : k < 1
  ·have hkk : (k : Int) < 1 := by omega
   obtain ⟨p, hp⟩ : ∃ p, p = (atN 1 3 1 6 k 0).toNat := ⟨_, rfl⟩
   have HAt := hid (block_pos right131 (k := k) (by omega))
   have HSc := hid (blockTo_succ 1 3 1 k)
   have HL9 := hid (show (slotTo 1 3 1 1 ++ blockTo 1 3 1 k).length = 1 + k by rw [List.length_append, slotTo_len, blockTo_len])
   obtain ⟨ls, hls⟩ : ∃ ls, ls = slotTo 1 3 1 1 ++ blockTo 1 3 1 k := ⟨_, rfl⟩
   rw [← hls] at HO9 HL9
   rw [← hp] at HAt HSc
   have HLs := hid hls
   clear hp hls
   obtain ⟨av9, cv9, hs9⟩ := Own.shape HO9.out
   subst hs9
   have b9 := HBG.out.2.2 9 _ rfl
   have f9 := HBG.out.2.1 9
   have b5 := HBG.out.1
   go_upto_region 16 with fail
   have HL_ := hid (fun w' (h : Ext wr w') => (And.intro (Nat.lt_of_lt_of_le m4 h.size) (And.intro (Nat.lt_of_lt_of_le b5 h.size) (And.intro (h.cell m0) (And.intro (h.cell m1) (And.intro (h.cell m2) (h.cell b9)))))))
   refine wp_region_facts [73, 74, 75, 76, 77, 78] [0, 1, 2, 3, 4, 5] rfl (fun w' => Ext wr w') (fsAt [IsV ?_, IsV ?_, IsV ?_, IsV ?_, IsV (.int .i64 (p : Int)), (fun v w' => ∃ q, v = .slice (some ⟨q, 0, none⟩) 1 1 ∧ Blk w' q ([p].flatMap locE))]) (by kernel_rfl) (by kernel_rfl) ((Ext.refl _).drew) (fun w w' h he => h.trans he) (AllOn.cons (fun _ _ _ h _ => h) (AllOn.cons (fun _ _ _ h _ => h) (AllOn.cons (fun _ _ _ h _ => h) (AllOn.cons (fun _ _ _ h _ => h) (AllOn.cons (fun _ _ _ h _ => h) (AllOn.cons (fun _ _ _ h he => by obtain ⟨q, h1, h2⟩ := h; exact ⟨q, h1, h2.of he⟩) (AllOn.nil))))))) (AllOn.cons ?_ (AllOn.cons ?_ (AllOn.cons ?_ (AllOn.cons ?_ (AllOn.cons ?_ (AllOn.cons ?_ (AllOn.nil))))))) ?_
   rotate_left 4
   ·intro A w cx hO hD
    have e3 := evO hO 3 rfl
    clear hD hO
    refine head_val (o := ⟨_, _, _, _, _, _⟩) rfl ?_ rfl rfl ?_ ?_
    rotate_left 1
    ·simp [go_sem, e3, cx, HL_.out w cx]
     try with_reducible rfl
    ·exact IsV.mk (w := w)
   ·intro A w cx hO hD
    have e73 := evD (hD 0 (by kernel_rfl) 73 rfl)
    clear hD hO
    refine head_val (o := ⟨_, _, _, _, _, _⟩) rfl ?_ rfl rfl ?_ ?_
    rotate_left 1
    ·simp [go_sem, e73, cx, HL_.out w cx]
     try with_reducible rfl
    ·exact IsV.mk (w := w)
   ·intro A w cx hO hD
    have e1 := evO hO 1 rfl
    clear hD hO
    refine head_val (o := ⟨_, _, _, _, _, _⟩) rfl ?_ rfl rfl ?_ ?_
    rotate_left 1
    ·simp [go_sem, e1, cx, HL_.out w cx]
     try with_reducible rfl
    ·exact IsV.mk (w := w)
   ·intro A w cx hO hD
    have e6 := evO hO 6 rfl
    clear hD hO
    refine head_val (o := ⟨_, _, _, _, _, _⟩) rfl ?_ rfl rfl ?_ ?_
    rotate_left 1
    ·simp [go_sem, e6, cx, HL_.out w cx]
     try with_reducible rfl
    ·exact IsV.mk (w := w)
   ·intro A w cx hO hD
    have e75 := evD (hD 2 (by kernel_rfl) 75 rfl)
    have e76 := evD (hD 3 (by kernel_rfl) 76 rfl)
    clear hD hO
    refine head_wp (o := ⟨_, _, _, _, _, _⟩) rfl rfl ?_
    simp [go_sem, e75, e76]
    refine (block_any 1 3 1 (k : Int) _ (HSW.out.of (HXk.out.trans cx))).mono ?_
    rintro e w' ⟨rfl, r', rfl⟩
    rw [HAt.out]
    exact ⟨_, rfl, ⟨r', rfl⟩, rfl⟩
   ·intro A w cx hO hD
    have e77 := evD (hD 4 (by kernel_rfl) 77 rfl)
    clear hD hO
    refine head_wp (o := ⟨_, _, _, _, _, _⟩) rfl rfl ?_
    simp [go_sem, e77]
    exact ⟨_, rfl, Ext.of_alloc _ _, _, rfl, Blk.new _ _ rfl rfl⟩
   intro u wx hC hF
   obtain ⟨f0, f1, f2, f3, f4, f5, _⟩ := hF
   have g0 : u 0 = _ := f0
   have g1 : u 1 = _ := f1
   have g2 : u 2 = _ := f2
   have g3 : u 3 = _ := f3
   have g4 : u 4 = _ := f4
   obtain ⟨v5, g5⟩ : ∃ v, u 5 = v := ⟨_, rfl⟩
   rw [g5] at f5
   simp only [fPut, Nat.zero_add, Nat.reduceAdd, g0, g1, g2, g3, g4, g5, Act.put, List.setIfInBounds_toArray, List.set_cons_zero, List.set_cons_succ, List.length_cons, List.length_nil, List.drop_succ_cons, List.drop_zero]
   clear g0 g1 g2 g3 g4 g5 f0 f1 f2 f3 f4
   obtain ⟨q, hs, hq⟩ := f5
   subst hs
   have HQ := hid hq
   have HWK := hid hC
   clear hq hC
   go_wp2_with (at_builtin; refine li_append_gb rfl _ _ rfl (by have := HWK.out.size; omega) rfl (HO9.out.of_ext HWK.out) _ 1 1 rfl [p] rfl (blk_newsL HQ.out) (by have := HL9.out; omega) ?_; rintro v9 w9 hv9 hg9 ha9; have HV9 := hid hv9; have HBG9 := hid ((HBG.out.of HWK.out).gro hg9 (HO9.out.not_at hgZ)); have HOT9 := hid ((HO10.out.of_ext HWK.out).gro hg9 (HTW.out.symm)); have HTW9 := hid (Two.next (HTW.out) (HO10.out.of_ext HWK.out).tops ha9); have HGN9 := hid ((HG.out.trans (Grn.of_ext HWK.out)).gro hg9 HO9.out.bases); have HX9 := hid (HXZ.out.grn HGN9.out hgW); obtain ⟨a9, c9, hs9⟩ := Own.shape hv9; subst hs9; simp only [List.length_append, List.length_cons, List.length_nil, Nat.zero_add] at *; clear hv9 hg9 ha9; have q0 := HBG9.out.2.1 9; have q1 := HBG9.out.2.2 9 _ rfl; have q2 := HBG9.out.1)
   go_wp2_with fail
   go_roundw
   case rel => exact ⟨k + 1, by omega, by go_num, _, hid (HBG9.out.set 9 (by simp) _), hid (by rw [HSc.out, ← List.append_assoc, ← HLs.out]; exact HV9.out.under hgZ _), hid (HOT9.out.under hgZ _), HTW9, hid (HGN9.out.setCell _ _)⟩
   case measure => simp [intOf]; omega
  have hkk : ¬ (k : Int) < 1 := by omega
  have HK1 := hid (show k = 1 by omega)
  have HSt := hid (show slotTo 1 3 1 1 ++ blockTo 1 3 1 k = statsL 1 3 1 by rw [HK1.out]; rfl)
  rw [HSt.out] at HO9
  obtain ⟨av9, cv9, hs9⟩ := Own.shape HO9.out
  obtain ⟨av10, cv10, hs10⟩ := Own.shape HO10.out
  obtain ⟨avm, cvm, hsm⟩ := Own.shape HOMZ.out
  subst hs9 hs10 hsm
  have HPt := hid ((HOMZ.out).not_at (show g < wc.heap.size from hgc))
  have HOM := hid ((HOMZ.out).gro HG.out (.inr HPt.out))
  have HBW := hid (HBWZ.out.grn HG.out (fun e => hgg e.symm))
  have HXw := hid (HWx.out.trans HXk.out)
  have HB2k := hid (HB2.out.of HXk.out)
  have c0 := HBG.out.2.2 0 _ rfl
  have c1 := HBG.out.2.2 1 _ rfl
  have c2 := HBG.out.2.2 2 _ rfl
  have c3 := HBG.out.2.2 3 _ rfl
  have c4 := HBG.out.2.2 4 _ rfl
  have c5 := HBG.out.2.2 5 _ rfl
  have c6 := HBG.out.2.2 6 _ rfl
  have c7 := HBG.out.2.2 7 _ rfl
  have c8 := HBG.out.2.2 8 _ rfl
  have c9 := HBG.out.2.2 9 _ rfl
  have c10 := HBG.out.2.2 10 _ rfl
  have c11 := HBG.out.1
  have d0 := HB2k.out.2.2 0 _ rfl
  have e0 := HB2k.out.2.1 0
  have d1 := HB2k.out.2.2 1 _ rfl
  have e1 := HB2k.out.2.1 1
  have d2 := HB2k.out.2.2 2 _ rfl
  have e2 := HB2k.out.2.1 2
  have d3 := HB2k.out.2.2 3 _ rfl
  have e3 := HB2k.out.2.1 3
  have d4 := HB2k.out.2.2 4 _ rfl
  have e4 := HB2k.out.2.1 4
  have d5 := HB2k.out.2.2 5 _ rfl
  have e5 := HB2k.out.2.1 5
  have d6 := HB2k.out.2.2 6 _ rfl
  have e6 := HB2k.out.2.1 6
  have d7 := HB2k.out.2.2 7 _ rfl
  have e7 := HB2k.out.2.1 7
  have d8 := HB2k.out.2.2 8 _ rfl
  have e8 := HB2k.out.2.1 8
  have d9 := HB2k.out.2.2 9 _ rfl
  have e9 := HB2k.out.2.1 9
  have d10 := HB2k.out.2.2 10 _ rfl
  have e10 := HB2k.out.2.1 10
  have d11 := HB2k.out.1
  have hw2 : w.heap.size + 1 < W.heap.size := HB2.out.1
  clear HK1 hk hk1 HSt
  (repeat (first | go_values | go_skip | go_guarded | go_step | go_upon | (simp only [Int.not_lt, Int.not_le] at *; go_simp) | (go_ite <;> go_prune <;> (try go_simp))))
  refine bodyPost_ret (v := .agg #[.int .i64 1, .int .i64 1, .int .i64 32, .int .i64 144, .int .i64 104, .int .i64 32, .slice (some ⟨gw, 0, none⟩) 176 176, .int .i64 176, .slice avm (maysL 1 3 1).length cvm, .slice av9 (statsL 1 3 1).length cv9, .slice av10 (ownsL 1 3 1).length cv10]) (by simp [results, Tryd.results5, go_sem, d11, d0, d1, d2, d3, d4, d5, d6, d7, d8, d9, d10]) rfl ⟨_, _, _, _, rfl, by (show Ext _ _; repeat with_reducible first | (refine xH ?_; assumption) | exact xR _ | refine xX ?_ _ | refine xA ?_ _ | refine xD ?_ | refine xS ?_ (by (try dsimp only); first | omega | (simp; done) | (simp; omega)) _), ?_, ?_, ?_, ?_⟩
  ·exact blk_bools (by (show Blk _ _ _; repeat first | (with_reducible first | (refine xH ?_; assumption) | apply bD | apply bX) | ((with_reducible refine bN _ _ rfl ?_); first | with_reducible rfl | focus (simp; done)) | ((with_reducible apply bE); first | with_reducible rfl | focus (simp; done)) | (with_reducible first | apply bA | assumption | apply bS) | ((with_reducible apply bO); first | omega | (simp; omega)) | (show List.set _ _ _ = _; exact rfl) | focus (show _ < List.length _; simp; done))) (mayL_len ..) (by omega)
  ·refine Sl.of_own (base := wc.heap.size) (e := 3) locE_len ?_
   repeat (with_reducible refine Own.under ?_ (by omega) _)
   exact HOM.out
  ·refine Sl.of_own (base := Z.heap.size) (e := 3) locE_len ?_
   repeat (with_reducible refine Own.under ?_ (by omega) _)
   exact HO9.out
  ·refine Sl.of_own (base := Z.heap.size) (e := 3) locE_len ?_
   repeat (with_reducible refine Own.under ?_ (by omega) _)
   exact HO10.out
end Go.Proofs.YtdpbcfjfnclpiaaDoor
