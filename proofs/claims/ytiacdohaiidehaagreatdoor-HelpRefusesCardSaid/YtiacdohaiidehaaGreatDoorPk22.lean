/- Memory's look with a choice: what a Load reads. -/
import Derived.Test.YtiacdohaiidehaaGreatDoorPk21
namespace Go.Proofs.YtiacdohaiidehaaGreatDoor
set_option linter.unusedSimpArgs false
set_option linter.unusedVariables false
open Go.RowKit
set_option maxRecDepth 100000 in
set_option maxHeartbeats 1000000 in
theorem mlookC_any {w : World} {P : Nat → Prop} (hP : ∀ b, P b → b < w.heap.size) {pa va : Option Addr} {pn pc vn vc : Nat} {m : Me} (h : MeR w P (.slice pa pn pc) (.slice va vn vc) m) (t ti : Nat) (ht : t = ti + 1) (f : Int → Nat) (hf : m.vs[ti]? = some f) (hvn : vn ≤ 1000) (hpn : pn ≤ 5000)
 (at_ : Nat) (l : List Mg) (hl : m.pl[at_]? = some l) (x1 x2 x3 x4 : Int) (g : Int → Nat) (i : Nat) (hm : l[i]? = some ⟨(x1, x2, x3), x4, g⟩) (ch : Int) (hch : i = chooseN l.length (f at_) ch) (hi : l.length ≤ 1000000) :
 Calls Tryz.prog 142 #[.agg #[.slice pa pn pc, .slice va vn vc], .int .i64 t, .int .i64 at_, .bool false, .func (.func 144) #[.int .i64 ch] #[]] w fun e w' => ∃ va' vc', e = .returned (.tuple #[.agg #[.slice pa pn pc, .slice va' vn vc'], .agg #[.int .i64 x1, .int .u32 x2, .int .u32 x3], .int .i64 0]) ∧ Ext w w' ∧ MeR w' (fun b => P b ∨ NewB memD w w' b) (.slice pa pn pc) (.slice va' vn vc') (meFinds m ti at_ i false f g) := by
 have H := hid h
 have HP := hid hP
 have HF := hid hf
 have HM := hid hm
 have HT := hid ht
 have HI := hid hi
 have HVn := hid hvn
 have HPn := hid hpn
 have HLl := hid hl
 have htl := (List.getElem?_eq_some_iff.1 hf).1
 have hll := (List.getElem?_eq_some_iff.1 hm).1
 have hvl : vn = m.vs.length := by obtain ⟨a', c', hv, _⟩ := h.2.shape; simp only [Value.slice.injEq] at hv; exact hv.2.1
 have hpl : pn = m.pl.length := by obtain ⟨a', c', hv, _⟩ := h.1.shape; simp only [Value.slice.injEq] at hv; exact hv.2.1
 obtain ⟨hs, h1, h2, h3⟩ := id h.1
 have hal : at_ < m.pl.length := (List.getElem?_eq_some_iff.1 hl).1
 obtain ⟨q, hq⟩ : ∃ q, hs[at_]? = some q := ⟨hs[at_]'(by omega), List.getElem?_eq_getElem _⟩
 obtain ⟨hx1, b, o, rfl, hb, hc⟩ := h1.1.at hq
 clear hx1
 have c0 := hc 0 (by omega)
 simp at c0
 obtain ⟨q1, q2, q3⟩ := q
 dsimp only at c0
 have HV := hid (h3 at_ _ l hq hl)
 have hq2 : q2 = l.length := by obtain ⟨a', c', hv, _⟩ := HV.out.shape; simp only [Value.slice.injEq] at hv; exact hv.2.1
 have HCh := hid (show i = chooseN q2 (f at_) ch by rw [hq2]; exact hch)
 have HI9 := hid (show i ≤ 1000000 by omega)
 clear hch
 have HQ2 := hid (show 1 ≤ q2 ∧ q2 ≤ 10000000 ∧ q2 - 1 = l.length - 1 from ⟨by omega, by omega, by omega⟩)
 have hil : (at_ : Int) < (pn : Int) := by omega
 have HAw := hid (show (Lit.int .i64 (at_ : Int)).wf = true from wf64 (by omega) (by omega))
 have HTr := hid (show (1 ≤ (t : Int) ∧ (t : Int) ≤ vn) ∧ 0 ≤ (at_ : Int) ∧ (at_ : Int) < pn from ⟨⟨by omega, by omega⟩, by omega, by omega⟩)
 clear h h1 h2 h3 hq hl hc hal hvl hP hf hm ht hi hvn htl hll hpl hpn hq2
 go_enter Tryz.func142, Tryz.ntmps142
 go_wp2_with (go_call (mwrong_any (some ⟨b, o, none⟩) va pn pc vn vc t at_ HTr.out.1 HTr.out.2 _) as e w' ⟨rfl, r1, rfl⟩)
 generalize hV : ext _ r1 = V
 have HEV := hid (show Ext w V by rw [← hV]; exact exP)
 have HB5 := hid (show Blk V w.heap.size [.slice (some ⟨b, o, none⟩) pn pc, .slice va vn vc] by rw [← hV]; exact bkP)
 have HB10 := hid (show Blk V (w.heap.size + 1) [.slice none 0 0, .slice none 0 0] by rw [← hV]; exact bkP)
 have HB11 := hid (show Blk V (w.heap.size + 1 + 1) [.int .i64 0, .int .u32 0, .int .u32 0] by rw [← hV]; exact bkP)
 obtain ⟨g0, hg0⟩ : ∃ g, g = w.heap.size := ⟨_, rfl⟩
 have HGw := hid (show w.heap.size = g0 from hg0.symm)
 rw [← hg0] at HB5 HB10 HB11 ⊢
 have c1 := HEV.out.cell c0
 have hbV := Nat.lt_of_lt_of_le hb HEV.out.size
 clear hV hg0 c0 hb
 have a0 := HB5.out.2.2 0 _ rfl
 have a1 := HB5.out.2.2 1 _ rfl
 have ag := HB5.out.1
 go_upto_region 4 with fail
 have HL_ := hid (fun w' (h : Ext V w') => (And.intro (Nat.lt_of_lt_of_le ag h.size) (And.intro (Nat.lt_of_lt_of_le hbV h.size) (And.intro (h.cell a0) (And.intro (h.cell a1) (h.cell c1))))))
 refine wp_region_late [26, 27, 28, 29, 30, 31, 32, 33, 34, 35, 36, 37, 38, 39, 40, 41, 42, 25, 43, 44, 14, 15] [0, 1, 2, 3, 4, 5, 6, 7, 8, 9, 10, 11, 12, 13, 14, 15, 16, 17, 18, 19, 20, 21] [19] rfl (fun w' => Ext V w') (fsAt [IsV ?_, IsV ?_, IsV ?_, IsV ?_, IsV ?_, IsV ?_, IsV ?_, IsV ?_, IsV ?_, IsV ?_, IsV ?_, (fun v w' => ∃ q, v = .agg #[.map q] ∧ VwR w' P (.map q) f), IsV ?_, IsV (.int .i64 (f at_)), IsV (.int .i64 (i : Nat)), IsV ?_, (fun v w' => ∃ va' vc', v = .tuple #[.agg #[.slice (some ⟨b, o, none⟩) pn pc, .slice va' vn vc'], .agg #[.int .i64 x1, .int .u32 x2, .int .u32 x3]] ∧ MeR w' (fun b => P b ∨ NewB memD V w' b) (.slice (some ⟨b, o, none⟩) pn pc) (.slice va' vn vc') (meFinds m ti at_ i false f g)), (fun v w' => ∃ va' vc', v = .tuple #[.agg #[.slice (some ⟨b, o, none⟩) pn pc, .slice va' vn vc'], .agg #[.int .i64 x1, .int .u32 x2, .int .u32 x3]] ∧ MeR w' (fun b => P b ∨ NewB memD V w' b) (.slice (some ⟨b, o, none⟩) pn pc) (.slice va' vn vc') (meFinds m ti at_ i false f g)), (fun v w' => ∃ va' vc', v = .agg #[.slice (some ⟨b, o, none⟩) pn pc, .slice va' vn vc'] ∧ MeR w' (fun b => P b ∨ NewB memD V w' b) (.slice (some ⟨b, o, none⟩) pn pc) (.slice va' vn vc') (meFinds m ti at_ i false f g)), IsV (.agg #[.int .i64 x1, .int .u32 x2, .int .u32 x3]), (fun v w' => ∃ b, v = .pointer (some ⟨b, 0, none⟩) ∧ w'.heap[b]? = some (.cells #[.slice none 0 0, .slice none 0 0] 81 (0, 0)) ∧ V.heap.size ≤ b), (fun v w' => ∃ b, v = .pointer (some ⟨b, 0, none⟩) ∧ w'.heap[b]? = some (.cells #[.int .i64 0, .int .u32 0, .int .u32 0] 44 (0, 0)) ∧ V.heap.size ≤ b)]) (by kernel_rfl) (by kernel_rfl) (fun _ _ _ _ _ h => h) ((Ext.refl _).drew) (fun w w' h he => h.trans he) (aC (fun _ _ _ h _ => h) (aC (fun _ _ _ h _ => h) (aC (fun _ _ _ h _ => h) (aC (fun _ _ _ h _ => h) (aC (fun _ _ _ h _ => h) (aC (fun _ _ _ h _ => h) (aC (fun _ _ _ h _ => h) (aC (fun _ _ _ h _ => h) (aC (fun _ _ _ h _ => h) (aC (fun _ _ _ h _ => h) (aC (fun _ _ _ h _ => h) (aC (fun _ _ _ h he => by obtain ⟨q, h1, h2⟩ := h; exact ⟨q, h1, h2.of he⟩) (aC (fun _ _ _ h _ => h) (aC (fun _ _ _ h _ => h) (aC (fun _ _ _ h _ => h) (aC (fun _ _ _ h _ => h) (aC (fun _ _ _ h he => by obtain ⟨q, q', h1, h2⟩ := h; exact ⟨q, q', h1, (h2.of he).imp (fun b h => h.imp id (fun h => h.to (Nat.le_refl _) (TyK.of_ext he)))⟩) (aC (fun _ _ _ h he => by obtain ⟨q, q', h1, h2⟩ := h; exact ⟨q, q', h1, (h2.of he).imp (fun b h => h.imp id (fun h => h.to (Nat.le_refl _) (TyK.of_ext he)))⟩) (aC (fun _ _ _ h he => by obtain ⟨q, q', h1, h2⟩ := h; exact ⟨q, q', h1, (h2.of he).imp (fun b h => h.imp id (fun h => h.to (Nat.le_refl _) (TyK.of_ext he)))⟩) (aC (fun _ _ _ h _ => h) (aC (fun _ _ _ h he => by obtain ⟨q, h1, h2, h3⟩ := h; exact ⟨q, h1, heap_of_ext he h2, h3⟩) (aC (fun _ _ _ h he => by obtain ⟨q, h1, h2, h3⟩ := h; exact ⟨q, h1, heap_of_ext he h2, h3⟩) (AllOn.nil))))))))))))))))))))))) (aC ?_ (AllOn.nil)) (aC ?_ (aC ?_ (aC ?_ (aC ?_ (aC ?_ (aC ?_ (aC ?_ (aC ?_ (aC ?_ (aC ?_ (aC ?_ (aC ?_ (aC ?_ (aC ?_ (aC ?_ (aC ?_ (aC ?_ (aC ?_ (aC ?_ (aC ?_ (aC ?_ (aC ?_ (AllOn.nil))))))))))))))))))))))) ?_
 rotate_left 13
 ·intro A w cx hO hD
  have e25 := hD 17 (by kernel_rfl) 25 rfl
  rw [ev_tm] at e25
  clear hD hO
  obtain ⟨va', vc', e25, _⟩ := e25
  exact late_val (o := ⟨_, _, _, _, _, _⟩) rfl _ rfl (fun w => by simp [go_sem, e25]) rfl
 ·intro A w cx hO hD
  have e5 := evO hO 5 rfl
  clear hD hO
  refine hdV rfl ?_ rfl rfl ?_ ?_
  rotate_left 1
  ·simp [go_sem, e5, cx, HL_.out w cx, hil]
   try with_reducible rfl
  ·exact IsV.mk (w := w)
 ·intro A w cx hO hD
  have e1 := evO hO 1 rfl
  clear hD hO
  refine hdV rfl ?_ rfl rfl ?_ ?_
  rotate_left 1
  ·simp [go_sem, e1, cx, HL_.out w cx, hil]
   try with_reducible rfl
  ·exact IsV.mk (w := w)
 ·intro A w cx hO hD
  have e2 := evO hO 2 rfl
  clear hD hO
  refine hdV rfl ?_ rfl rfl ?_ ?_
  rotate_left 1
  ·simp [go_sem, e2, cx, HL_.out w cx, hil]
   try with_reducible rfl
  ·exact IsV.mk (w := w)
 ·intro A w cx hO hD
  have e4 := evO hO 4 rfl
  clear hD hO
  refine hdV rfl ?_ rfl rfl ?_ ?_
  rotate_left 1
  ·simp [go_sem, e4, cx, HL_.out w cx, hil]
   try with_reducible rfl
  ·exact IsV.mk (w := w)
 ·intro A w cx hO hD
  have e5 := evO hO 5 rfl
  clear hD hO
  refine hdV rfl ?_ rfl rfl ?_ ?_
  rotate_left 1
  ·simp [go_sem, e5, cx, HL_.out w cx, hil]
   try with_reducible rfl
  ·exact IsV.mk (w := w)
 ·intro A w cx hO hD
  have e30 := evD (hD 4 (by kernel_rfl) 30 rfl)
  clear hD hO
  refine hdV rfl ?_ rfl rfl ?_ ?_
  rotate_left 1
  ·simp [go_sem, e30, cx, HL_.out w cx, hil]
   try with_reducible rfl
  ·exact IsV.mk (w := w)
 ·intro A w cx hO hD
  have e2 := evO hO 2 rfl
  clear hD hO
  refine hdV rfl ?_ rfl rfl ?_ ?_
  rotate_left 1
  ·simp [go_sem, e2, cx, HL_.out w cx, hil]
   try with_reducible rfl
  ·exact IsV.mk (w := w)
 ·intro A w cx hO hD
  have e31 := evD (hD 5 (by kernel_rfl) 31 rfl)
  have e32 := evD (hD 6 (by kernel_rfl) 32 rfl)
  clear hD hO
  refine hdV rfl ?_ rfl rfl ?_ ?_
  rotate_left 1
  ·simp [go_sem, e31, e32, cx, HL_.out w cx, hil]
   try with_reducible rfl
  ·exact IsV.mk (w := w)
 ·intro A w cx hO hD
  have e33 := evD (hD 7 (by kernel_rfl) 33 rfl)
  clear hD hO
  refine hdV rfl ?_ rfl rfl ?_ ?_
  rotate_left 1
  ·simp [go_sem, e33, cx, HL_.out w cx, hil]
   try with_reducible rfl
  ·exact IsV.mk (w := w)
 ·intro A w cx hO hD
  have e5 := evO hO 5 rfl
  clear hD hO
  refine hdV rfl ?_ rfl rfl ?_ ?_
  rotate_left 1
  ·simp [go_sem, e5, cx, HL_.out w cx, hil]
   try with_reducible rfl
  ·exact IsV.mk (w := w)
 ·intro A w cx hO hD
  have e1 := evO hO 1 rfl
  clear hD hO
  refine hdV rfl ?_ rfl rfl ?_ ?_
  rotate_left 1
  ·simp [go_sem, e1, cx, HL_.out w cx, hil]
   try with_reducible rfl
  ·exact IsV.mk (w := w)
 ·intro A w cx hO hD
  have e35 := evD (hD 9 (by kernel_rfl) 35 rfl)
  have e36 := evD (hD 10 (by kernel_rfl) 36 rfl)
  clear hD hO
  refine hdW rfl rfl ?_
  simp [go_sem, e35, e36]
  refine (mseen_any _ pn pc (H.out.2.of (HEV.out.trans cx)) t ti HT.out f HF.out HVn.out).mono ?_
  rintro e w' ⟨q, rfl, ⟨r', rfl⟩, hv⟩
  exact ⟨_, rfl, ⟨r', rfl⟩, q, rfl, hv⟩
 ·intro A w cx hO hD
  have e2 := evO hO 2 rfl
  clear hD hO
  refine hdV rfl ?_ rfl rfl ?_ ?_
  rotate_left 1
  ·simp [go_sem, e2, cx, HL_.out w cx, hil]
   try with_reducible rfl
  ·exact IsV.mk (w := w)
 ·intro A w cx hO hD
  have e37 := hD 11 (by kernel_rfl) 37 rfl
  rw [ev_tm] at e37
  have e38 := evD (hD 12 (by kernel_rfl) 38 rfl)
  clear hD hO
  refine hdW rfl rfl ?_
  obtain ⟨q, e37, hv⟩ := e37
  simp [go_sem, e37, e38]
  refine (vat_any hv at_ HAw.out).mono ?_
  rintro e w' ⟨rfl, r', rfl⟩
  exact ⟨_, rfl, ⟨r', rfl⟩, rfl⟩
 ·intro A w cx hO hD
  have e29 := evD (hD 3 (by kernel_rfl) 29 rfl)
  have e34 := evD (hD 8 (by kernel_rfl) 34 rfl)
  have e39 := evD (hD 13 (by kernel_rfl) 39 rfl)
  clear hD hO
  refine hdW rfl rfl ?_
  simp [go_sem, e29, e34, e39]
  refine (psome_any ch q1 q2 q3 (f at_) HQ2.out.1 HQ2.out.2.1 _).mono ?_
  rintro e w' ⟨rfl, r', rfl⟩
  rw [← HCh.out]
  exact ⟨_, rfl, ⟨r', rfl⟩, rfl⟩
 ·intro A w cx hO hD
  have e3 := evO hO 3 rfl
  clear hD hO
  refine hdV rfl ?_ rfl rfl ?_ ?_
  rotate_left 1
  ·simp [go_sem, e3, cx, HL_.out w cx, hil]
   try with_reducible rfl
  ·exact IsV.mk (w := w)
 ·intro A w cx hO hD
  have e26 := evD (hD 0 (by kernel_rfl) 26 rfl)
  have e27 := evD (hD 1 (by kernel_rfl) 27 rfl)
  have e28 := evD (hD 2 (by kernel_rfl) 28 rfl)
  have e40 := evD (hD 14 (by kernel_rfl) 40 rfl)
  have e41 := evD (hD 15 (by kernel_rfl) 41 rfl)
  clear hD hO
  refine hdW rfl rfl ?_
  simp [go_sem, e26, e27, e28, e40, e41]
  refine (mfinds_any (P := P) (fun b h => Nat.lt_of_lt_of_le (HP.out b h) (HEV.out.trans cx).size) (H.out.of (HEV.out.trans cx)) t ti HT.out f HF.out HVn.out HPn.out at_ l HLl.out i x1 x2 x3 x4 g HM.out HI9.out false).mono ?_
  rintro e w' ⟨va', vc', rfl, ⟨r', rfl⟩, hm⟩
  exact ⟨_, rfl, ⟨r', rfl⟩, va', vc', rfl, hm.imp (fun n h => h.imp id (fun h => h.to cx.size TyK.refl))⟩
 ·intro A w cx hO hD
  have e42 := hD 16 (by kernel_rfl) 42 rfl
  rw [ev_tm] at e42
  clear hD hO
  refine hdW rfl rfl ?_
  obtain ⟨va', vc', e42, hm⟩ := e42
  simp [go_sem, e42]
  exact ⟨_, rfl, Ext.refl _, va', vc', rfl, hm⟩
 ·intro A w cx hO hD
  have e25 := hD 17 (by kernel_rfl) 25 rfl
  rw [ev_tm] at e25
  clear hD hO
  refine hdW rfl rfl ?_
  obtain ⟨va', vc', e25, hm⟩ := e25
  simp [go_sem, e25]
  exact ⟨_, rfl, Ext.refl _, va', vc', rfl, hm⟩
 ·intro A w cx hO hD
  have e25 := hD 17 (by kernel_rfl) 25 rfl
  rw [ev_tm] at e25
  clear hD hO
  refine hdW rfl rfl ?_
  obtain ⟨va', vc', e25, hm⟩ := e25
  simp [go_sem, e25]
  exact ⟨_, rfl, Ext.refl _, rfl⟩
 ·intro A w cx hO hD
  clear hD hO
  refine hdW rfl rfl ?_
  simp [go_sem]
  exact ⟨_, rfl, Ext.of_alloc _ _, _, rfl, heap_newH rfl, cx.size⟩
 ·intro A w cx hO hD
  clear hD hO
  refine hdW rfl rfl ?_
  simp [go_sem]
  exact ⟨_, rfl, Ext.of_alloc _ _, _, rfl, heap_newH rfl, cx.size⟩
 intro u wx hC hF
 obtain ⟨f0, f1, f2, f3, f4, f5, f6, f7, f8, f9, f10, f11, f12, f13, f14, f15, f16, f17, f18, f19, f20, f21, _⟩ := hF
 have g0 : u 0 = _ := f0
 have g1 : u 1 = _ := f1
 have g2 : u 2 = _ := f2
 have g3 : u 3 = _ := f3
 have g4 : u 4 = _ := f4
 have g5 : u 5 = _ := f5
 have g6 : u 6 = _ := f6
 have g7 : u 7 = _ := f7
 have g8 : u 8 = _ := f8
 have g9 : u 9 = _ := f9
 have g10 : u 10 = _ := f10
 obtain ⟨v11, g11⟩ : ∃ v, u 11 = v := ⟨_, rfl⟩
 rw [g11] at f11
 have g12 : u 12 = _ := f12
 have g13 : u 13 = _ := f13
 have g14 : u 14 = _ := f14
 have g15 : u 15 = _ := f15
 obtain ⟨v16, g16⟩ : ∃ v, u 16 = v := ⟨_, rfl⟩
 rw [g16] at f16
 obtain ⟨v17, g17⟩ : ∃ v, u 17 = v := ⟨_, rfl⟩
 rw [g17] at f17
 obtain ⟨v18, g18⟩ : ∃ v, u 18 = v := ⟨_, rfl⟩
 rw [g18] at f18
 have g19 : u 19 = _ := f19
 obtain ⟨v20, g20⟩ : ∃ v, u 20 = v := ⟨_, rfl⟩
 rw [g20] at f20
 obtain ⟨v21, g21⟩ : ∃ v, u 21 = v := ⟨_, rfl⟩
 rw [g21] at f21
 simp only [fPut, Nat.zero_add, Nat.reduceAdd, g0, g1, g2, g3, g4, g5, g6, g7, g8, g9, g10, g11, g12, g13, g14, g15, g16, g17, g18, g19, g20, g21, Act.put, List.setIfInBounds_toArray, List.set_cons_zero, List.set_cons_succ, List.length_cons, List.length_nil, List.drop_succ_cons, List.drop_zero]
 clear g0 g1 g2 g3 g4 g5 g6 g7 g8 g9 g10 g11 g12 g13 g14 g15 g16 g17 g18 g19 g20 g21 f0 f1 f2 f3 f4 f5 f6 f7 f8 f9 f10 f12 f13 f14 f15 f19
 obtain ⟨va', vc', rfl, hme⟩ := f18
 obtain ⟨ba, rfl, hba, hba2⟩ := f20
 obtain ⟨bb, rfl, hbb, hbb2⟩ := f21
 have HX := hid hC
 have HMe := hid hme
 have hab : ba ≠ bb := by intro h; subst h; rw [hba] at hbb; cases hbb
 have HNa := hid (show ¬ (P ba ∨ NewB memD V wx ba) from fun h => by rcases h with h | h; (have := HP.out _ h; have := HEV.out.size; omega); exact h.not hba (by decide))
 have HNb := hid (show ¬ (P bb ∨ NewB memD V wx bb) from fun h => by rcases h with h | h; (have := HP.out _ h; have := HEV.out.size; omega); exact h.not hbb (by decide))
 have hba := blk_heap hba
 have hbb := blk_heap hbb
 have HBa := hid hba
 have HBb := hid hbb
 have HAB := hid (And.intro hab (And.intro hba2 hbb2))
 have x0 := hba.2.2 0 _ rfl
 have x1' := hba.2.2 1 _ rfl
 have xf := hba.2.1
 have xg := hba.1
 have y0 := hbb.2.2 0 _ rfl
 have y1 := hbb.2.2 1 _ rfl
 have y2 := hbb.2.2 2 _ rfl
 have yf := hbb.2.1
 have yg := hbb.1
 have hba' : ¬ ba = bb := hab
 have hbb' : ¬ bb = ba := fun h => hab h.symm
 clear hC hme hba hbb hab hba2 hbb2
 go_upto_region 5 with fail
 generalize hZ : World.setCell _ _ _ = Z
 have HMz := hid (show MeR Z (fun b => P b ∨ NewB memD V wx b) (.slice (some ⟨b, o, none⟩) pn pc) (.slice va' vn vc') (meFinds m ti at_ i false f g) from by rw [← hZ]; exact MeR.kp HMe.out (((((KpB.refl.setCell HNa.out _).setCell HNa.out _).setCell HNb.out _).setCell HNb.out _).setCell HNb.out _))
 have HTz := hid (show TyK memD wx Z from by rw [← hZ]; exact tyP)
 have HZa := hid (show Blk Z ba [.slice (some ⟨b, o, none⟩) pn pc, .slice va' vn vc'] from by rw [← hZ]; exact Blk.other' hbb' (Blk.other' hbb' (Blk.other' hbb' (((HBa.out).set 0 (by simp) _).set 1 (by simp) _))))
 have HZb := hid (show Blk Z bb [.int .i64 x1, .int .u32 x2, .int .u32 x3] from by rw [← hZ]; exact (((Blk.other' hba' (Blk.other' hba' HBb.out)).set 0 (by simp) _).set 1 (by simp) _).set 2 (by simp) _)
 have HEz := hid (show Ext V Z from by rw [← hZ]; exact ((((HX.out.setCell HAB.out.2.1 _).setCell HAB.out.2.1 _).setCell HAB.out.2.2 _).setCell HAB.out.2.2 _).setCell HAB.out.2.2 _)
 clear hZ x0 x1' xf xg y0 y1 y2 yf yg HBa HBb hba' hbb'
 have hV10 := HB10.out.of HEz.out
 have hV11 := HB11.out.of HEz.out
 have x0 := HZa.out.2.2 0 _ rfl
 have x1' := HZa.out.2.2 1 _ rfl
 have xg := HZa.out.1
 have y0 := HZb.out.2.2 0 _ rfl
 have y1 := HZb.out.2.2 1 _ rfl
 have y2 := HZb.out.2.2 2 _ rfl
 have yg := HZb.out.1
 have b0 := hV10.2.2 0 _ rfl
 have b1 := hV10.2.2 1 _ rfl
 have bf := hV10.2.1
 have bg := hV10.1
 have c0 := hV11.2.2 0 _ rfl
 have c1 := hV11.2.2 1 _ rfl
 have c2 := hV11.2.2 2 _ rfl
 have cf := hV11.2.1
 have cg := hV11.1
 have hb11 := HB11.out.1
 have hab := HAB.out
 have hgw := HGw.out
 have HSt := hid (show ∀ w', Gr2 (g0 + 1) (g0 + 1 + 1) Z w' → (fun w' => (w'.cell? ⟨ba, 0, none⟩ = some (.slice (some ⟨b, o, none⟩) pn pc) ∧ w'.cell? ⟨ba, 1, none⟩ = some (.slice va' vn vc')) ∧ (w'.cell? ⟨bb, 0, none⟩ = some (.int .i64 x1) ∧ w'.cell? ⟨bb, 1, none⟩ = some (.int .u32 x2) ∧ w'.cell? ⟨bb, 2, none⟩ = some (.int .u32 x3)) ∧ (ba < w'.heap.size ∧ bb < w'.heap.size)) w' from fun w' G => ⟨⟨G.cell (by omega) (by omega) x0, G.cell (by omega) (by omega) x1'⟩, ⟨G.cell (by omega) (by omega) y0, G.cell (by omega) (by omega) y1, G.cell (by omega) (by omega) y2⟩, Nat.lt_of_lt_of_le xg G.1, Nat.lt_of_lt_of_le yg G.1⟩)
 have HNs := hid (show g0 + 1 + 1 < V.heap.size from hb11)
 clear hV10 hV11 hb11 hab hgw
 refine wp_region_held_drew (S := fun w' => (w'.cell? ⟨ba, 0, none⟩ = some (.slice (some ⟨b, o, none⟩) pn pc) ∧ w'.cell? ⟨ba, 1, none⟩ = some (.slice va' vn vc')) ∧ (w'.cell? ⟨bb, 0, none⟩ = some (.int .i64 x1) ∧ w'.cell? ⟨bb, 1, none⟩ = some (.int .u32 x2) ∧ w'.cell? ⟨bb, 2, none⟩ = some (.int .u32 x3)) ∧ (ba < w'.heap.size ∧ bb < w'.heap.size)) (by kernel_rfl) (by exact HSt.out _ (by repeat (first | with_reducible exact Gr2.refl | ((with_reducible refine Gr2.setL ?_ _ _)) | ((with_reducible refine Gr2.setR ?_ _ _)) | ((with_reducible refine Gr2.drew ?_))))) (fun hHeld => ?_)
 refine tkm 0 (v := ?_) rfl ?_ ?_
 rotate_left 1
 ·intro w hSw
  try dsimp only at hSw
  go_simp
  try with_reducible rfl
 (try simp only [Act.put, pA, pB, pC])
 refine tkm 1 (v := ?_) rfl ?_ ?_
 rotate_left 1
 ·intro w hSw
  try dsimp only at hSw
  go_simp
  try with_reducible rfl
 (try simp only [Act.put, pA, pB, pC])
 refine take_only 2 (oi := ⟨_, _, _, _, _, _⟩) (by kernel_rfl) rfl (fun K hK => ?_)
 go_simp
 have hOld := hHeld
 clear hHeld
 refine hK.out _ _ (by exact HSt.out _ (by repeat (first | with_reducible exact Gr2.refl | ((with_reducible refine Gr2.setL ?_ _ _)) | ((with_reducible refine Gr2.setR ?_ _ _)) | ((with_reducible refine Gr2.drew ?_))))) (fun hHeld => ?_)
 clear hOld hK K
 (try simp only [Act.put, pA, pB, pC])
 refine take_only 3 (oi := ⟨_, _, _, _, _, _⟩) (by kernel_rfl) rfl (fun K hK => ?_)
 go_simp
 have hOld := hHeld
 clear hHeld
 refine hK.out _ _ (by exact HSt.out _ (by repeat (first | with_reducible exact Gr2.refl | ((with_reducible refine Gr2.setL ?_ _ _)) | ((with_reducible refine Gr2.setR ?_ _ _)) | ((with_reducible refine Gr2.drew ?_))))) (fun hHeld => ?_)
 clear hOld hK K
 (try simp only [Act.put, pA, pB, pC])
 refine tkm 4 (v := ?_) rfl ?_ ?_
 rotate_left 1
 ·intro w hSw
  try dsimp only at hSw
  go_simp
  try with_reducible rfl
 (try simp only [Act.put, pA, pB, pC])
 refine wpAnyH_done (by kernel_rfl) ?_ _
 clear hHeld
 have hb11 := HNs.out
 have hgw := HGw.out
 have hev := HEV.out.size
 have HEw := hid (HEV.out.trans HEz.out)
 have hn1 : ¬ (P (g0 + 1) ∨ NewB memD V wx (g0 + 1)) := fun h => by
  rcases h with h | h
  ·have := HP.out _ h; omega
  ·have h1 := h.1; omega
 have hn2 : ¬ (P (g0 + 1 + 1) ∨ NewB memD V wx (g0 + 1 + 1)) := fun h => by
  rcases h with h | h
  ·have := HP.out _ h; omega
  ·have h1 := h.1; omega
 (repeat (first | go_values | go_skip | go_guarded | go_step | go_upon | (simp only [Int.not_lt, Int.not_le] at *; go_simp) | (go_ite <;> go_prune <;> (try go_simp))))
 refine bodyPost_ret (v := .tuple #[.agg #[.slice (some ⟨b, o, none⟩) pn pc, .slice va' vn vc'], .agg #[.int .i64 x1, .int .u32 x2, .int .u32 x3], .int .i64 0]) (by simp [results, Tryz.results142, go_sem, b0, b1, bf, bg, c0, c1, c2, cf, cg]) rfl ⟨va', vc', rfl, by exact exF, ?_⟩
 refine (MeR.kp HMz.out (((((KpB.refl.setCell hn1 _).setCell hn1 _).setCell hn2 _).setCell hn2 _).setCell hn2 _).drew).imp (fun n h => h.imp id (fun h => h.to hev (HTz.out.trans (by exact tyP))))
end Go.Proofs.YtiacdohaiidehaaGreatDoor
