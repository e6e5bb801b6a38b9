/- The memory: Look, Swap and what they call. -/
import Derived.Test.YtiacdohaiidehaaGreatDoorPk06
namespace Go.Proofs.YtiacdohaiidehaaGreatDoor
set_option linter.unusedSimpArgs false
set_option linter.unusedVariables false
open Go.RowKit Go.Maps
theorem plast_any (k n0 : Int) (a : Option Addr) (n c : Nat) (hn : 1 ≤ n) (hn2 : n ≤ 10000000) (w : World) : Calls Tryz.prog 143 #[.int .i64 k, .agg #[.slice a n c], .int .i64 n0] w fun e w' => e = .returned (.int .i64 (n - 1 : Nat)) ∧ ∃ r, w' = ext w r := by
 have HW := hid (show ((n - 1 : Nat) : Int) = (n : Int) - 1 by omega)
 go_enter Tryz.func143, Tryz.ntmps143
 go_wp2_with (go_call (hlen_any a n c _) as e w' ⟨rfl, r1, rfl⟩)
 go_ret
 exact ⟨by rw [HW.out]; rfl, by exact exP⟩
set_option maxRecDepth 100000 in
set_option maxHeartbeats 1000000 in
theorem mlook_any {w : World} {P : Nat → Prop} (hP : ∀ b, P b → b < w.heap.size) {pa va : Option Addr} {pn pc vn vc : Nat} {m : Me} (h : MeR w P (.slice pa pn pc) (.slice va vn vc) m) (t ti : Nat) (ht : t = ti + 1) (f : Int → Nat) (hf : m.vs[ti]? = some f) (hvn : vn ≤ 1000) (hpn : pn ≤ 5000)
 (at_ : Nat) (l : List Mg) (hl : m.pl[at_]? = some l) (x1 x2 x3 x4 : Int) (g : Int → Nat) (hm : l[l.length - 1]? = some ⟨(x1, x2, x3), x4, g⟩) (hi : l.length ≤ 1000000) :
 Calls Tryz.prog 142 #[.agg #[.slice pa pn pc, .slice va vn vc], .int .i64 t, .int .i64 at_, .bool true, .func (.func 143) #[.int .i64 0] #[]] w fun e w' => ∃ va' vc', e = .returned (.tuple #[.agg #[.slice pa pn pc, .slice va' vn vc'], .agg #[.int .i64 x1, .int .u32 x2, .int .u32 x3], .int .i64 0]) ∧ Ext w w' ∧ MeR w' (fun b => P b ∨ NewB memD w w' b) (.slice pa pn pc) (.slice va' vn vc') (meFinds m ti at_ (l.length - 1) true f g) := by
 have H := hid h
 have HP := hid hP
 have HF := hid hf
 have HM := hid hm
 have HT := hid ht
 have HI := hid hi
 have HVn := hid hvn
 have HPn := hid hpn
 have HLl := hid hl
 have htl := (List.getElem?_eq_some_iff.1 hf).1
 have hll := (List.getElem?_eq_some_iff.1 hm).1
 have hvl : vn = m.vs.length := by obtain ⟨a', c', hv, _⟩ := h.2.shape; simp only [Value.slice.injEq] at hv; exact hv.2.1
 have hpl : pn = m.pl.length := by obtain ⟨a', c', hv, _⟩ := h.1.shape; simp only [Value.slice.injEq] at hv; exact hv.2.1
 obtain ⟨hs, h1, h2, h3⟩ := id h.1
 have hal : at_ < m.pl.length := (List.getElem?_eq_some_iff.1 hl).1
 obtain ⟨q, hq⟩ : ∃ q, hs[at_]? = some q := ⟨hs[at_]'(by omega), List.getElem?_eq_getElem _⟩
 obtain ⟨hx1, b, o, rfl, hb, hc⟩ := h1.1.at hq
 clear hx1
 have c0 := hc 0 (by omega)
 simp at c0
 obtain ⟨q1, q2, q3⟩ := q
 dsimp only at c0
 have HV := hid (h3 at_ _ l hq hl)
 have hq2 : q2 = l.length := by obtain ⟨a', c', hv, _⟩ := HV.out.shape; simp only [Value.slice.injEq] at hv; exact hv.2.1
 have HQ2 := hid (show 1 ≤ q2 ∧ q2 ≤ 10000000 ∧ q2 - 1 = l.length - 1 from ⟨by omega, by omega, by omega⟩)
 have hil : (at_ : Int) < (pn : Int) := by omega
 have HAw := hid (show (Lit.int .i64 (at_ : Int)).wf = true from wf64 (by omega) (by omega))
 have HTr := hid (show (1 ≤ (t : Int) ∧ (t : Int) ≤ vn) ∧ 0 ≤ (at_ : Int) ∧ (at_ : Int) < pn from ⟨⟨by omega, by omega⟩, by omega, by omega⟩)
 clear h h1 h2 h3 hq hl hc hal hvl hP hf hm ht hi hvn htl hll hpl hpn hq2
 go_enter Tryz.func142, Tryz.ntmps142
 go_wp2_with (go_call (mwrong_any (some ⟨b, o, none⟩) va pn pc vn vc t at_ HTr.out.1 HTr.out.2 _) as e w' ⟨rfl, r1, rfl⟩)
 generalize hV : ext _ r1 = V
 have HEV := hid (show Ext w V by rw [← hV]; exact exP)
 have HB5 := hid (show Blk V w.heap.size [.slice (some ⟨b, o, none⟩) pn pc, .slice va vn vc] by rw [← hV]; exact bkP)
 have HB10 := hid (show Blk V (w.heap.size + 1) [.slice none 0 0, .slice none 0 0] by rw [← hV]; exact bkP)
 have HB11 := hid (show Blk V (w.heap.size + 1 + 1) [.int .i64 0, .int .u32 0, .int .u32 0] by rw [← hV]; exact bkP)
 obtain ⟨g0, hg0⟩ : ∃ g, g = w.heap.size := ⟨_, rfl⟩
 have HGw := hid (show w.heap.size = g0 from hg0.symm)
 rw [← hg0] at HB5 HB10 HB11 ⊢
 have c1 := HEV.out.cell c0
 have hbV := Nat.lt_of_lt_of_le hb HEV.out.size
 clear hV hg0 c0 hb
 have a0 := HB5.out.2.2 0 _ rfl
 have a1 := HB5.out.2.2 1 _ rfl
 have ag := HB5.out.1
 go_upto_region 4 with fail
 have HL_ := hid (fun w' (h : Ext V w') => (And.intro (Nat.lt_of_lt_of_le ag h.size) (And.intro (Nat.lt_of_lt_of_le hbV h.size) (And.intro (h.cell a0) (And.intro (h.cell a1) (h.cell c1))))))
 refine wp_region_late [26, 27, 28, 29, 30, 31, 32, 33, 34, 35, 36, 37, 38, 39, 40, 41, 42, 25, 43, 44, 14, 15] [0, 1, 2, 3, 4, 5, 6, 7, 8, 9, 10, 11, 12, 13, 14, 15, 16, 17, 18, 19, 20, 21] [19] rfl (fun w' => Ext V w') (fsAt [IsV ?_, IsV ?_, IsV ?_, IsV ?_, IsV ?_, IsV ?_, IsV ?_, IsV ?_, IsV ?_, IsV ?_, IsV ?_, (fun v w' => ∃ q, v = .agg #[.map q] ∧ VwR w' P (.map q) f), IsV ?_, IsV (.int .i64 (f at_)), IsV (.int .i64 (q2 - 1 : Nat)), IsV ?_, (fun v w' => ∃ va' vc', v = .tuple #[.agg #[.slice (some ⟨b, o, none⟩) pn pc, .slice va' vn vc'], .agg #[.int .i64 x1, .int .u32 x2, .int .u32 x3]] ∧ MeR w' (fun b => P b ∨ NewB memD V w' b) (.slice (some ⟨b, o, none⟩) pn pc) (.slice va' vn vc') (meFinds m ti at_ (l.length - 1) true f g)), (fun v w' => ∃ va' vc', v = .tuple #[.agg #[.slice (some ⟨b, o, none⟩) pn pc, .slice va' vn vc'], .agg #[.int .i64 x1, .int .u32 x2, .int .u32 x3]] ∧ MeR w' (fun b => P b ∨ NewB memD V w' b) (.slice (some ⟨b, o, none⟩) pn pc) (.slice va' vn vc') (meFinds m ti at_ (l.length - 1) true f g)), (fun v w' => ∃ va' vc', v = .agg #[.slice (some ⟨b, o, none⟩) pn pc, .slice va' vn vc'] ∧ MeR w' (fun b => P b ∨ NewB memD V w' b) (.slice (some ⟨b, o, none⟩) pn pc) (.slice va' vn vc') (meFinds m ti at_ (l.length - 1) true f g)), IsV (.agg #[.int .i64 x1, .int .u32 x2, .int .u32 x3]), (fun v w' => ∃ b, v = .pointer (some ⟨b, 0, none⟩) ∧ w'.heap[b]? = some (.cells #[.slice none 0 0, .slice none 0 0] 81 (0, 0)) ∧ V.heap.size ≤ b), (fun v w' => ∃ b, v = .pointer (some ⟨b, 0, none⟩) ∧ w'.heap[b]? = some (.cells #[.int .i64 0, .int .u32 0, .int .u32 0] 44 (0, 0)) ∧ V.heap.size ≤ b)]) (by kernel_rfl) (by kernel_rfl) (fun _ _ _ _ _ h => h) ((Ext.refl _).drew) (fun w w' h he => h.trans he) (aC (fun _ _ _ h _ => h) (aC (fun _ _ _ h _ => h) (aC (fun _ _ _ h _ => h) (aC (fun _ _ _ h _ => h) (aC (fun _ _ _ h _ => h) (aC (fun _ _ _ h _ => h) (aC (fun _ _ _ h _ => h) (aC (fun _ _ _ h _ => h) (aC (fun _ _ _ h _ => h) (aC (fun _ _ _ h _ => h) (aC (fun _ _ _ h _ => h) (aC (fun _ _ _ h he => by obtain ⟨q, h1, h2⟩ := h; exact ⟨q, h1, h2.of he⟩) (aC (fun _ _ _ h _ => h) (aC (fun _ _ _ h _ => h) (aC (fun _ _ _ h _ => h) (aC (fun _ _ _ h _ => h) (aC (fun _ _ _ h he => by obtain ⟨q, q', h1, h2⟩ := h; exact ⟨q, q', h1, (h2.of he).imp (fun b h => h.imp id (fun h => h.to (Nat.le_refl _) (TyK.of_ext he)))⟩) (aC (fun _ _ _ h he => by obtain ⟨q, q', h1, h2⟩ := h; exact ⟨q, q', h1, (h2.of he).imp (fun b h => h.imp id (fun h => h.to (Nat.le_refl _) (TyK.of_ext he)))⟩) (aC (fun _ _ _ h he => by obtain ⟨q, q', h1, h2⟩ := h; exact ⟨q, q', h1, (h2.of he).imp (fun b h => h.imp id (fun h => h.to (Nat.le_refl _) (TyK.of_ext he)))⟩) (aC (fun _ _ _ h _ => h) (aC (fun _ _ _ h he => by obtain ⟨q, h1, h2, h3⟩ := h; exact ⟨q, h1, heap_of_ext he h2, h3⟩) (aC (fun _ _ _ h he => by obtain ⟨q, h1, h2, h3⟩ := h; exact ⟨q, h1, heap_of_ext he h2, h3⟩) (AllOn.nil))))))))))))))))))))))) (aC ?_ (AllOn.nil)) (aC ?_ (aC ?_ (aC ?_ (aC ?_ (aC ?_ (aC ?_ (aC ?_ (aC ?_ (aC ?_ (aC ?_ (aC ?_ (aC ?_ (aC ?_ (aC ?_ (aC ?_ (aC ?_ (aC ?_ (aC ?_ (aC ?_ (aC ?_ (aC ?_ (aC ?_ (AllOn.nil))))))))))))))))))))))) ?_
 rotate_left 13
 ·intro A w cx hO hD
  have e25 := hD 17 (by kernel_rfl) 25 rfl
  rw [ev_tm] at e25
  clear hD hO
  obtain ⟨va', vc', e25, _⟩ := e25
  exact late_val (o := ⟨_, _, _, _, _, _⟩) rfl _ rfl (fun w => by simp [go_sem, e25]) rfl
 ·intro A w cx hO hD
  have e5 := evO hO 5 rfl
  clear hD hO
  refine hdV rfl ?_ rfl rfl ?_ ?_
  rotate_left 1
  ·simp [go_sem, e5, cx, HL_.out w cx, hil]
   try with_reducible rfl
  ·exact IsV.mk (w := w)
 ·intro A w cx hO hD
  have e1 := evO hO 1 rfl
  clear hD hO
  refine hdV rfl ?_ rfl rfl ?_ ?_
  rotate_left 1
  ·simp [go_sem, e1, cx, HL_.out w cx, hil]
   try with_reducible rfl
  ·exact IsV.mk (w := w)
 ·intro A w cx hO hD
  have e2 := evO hO 2 rfl
  clear hD hO
  refine hdV rfl ?_ rfl rfl ?_ ?_
  rotate_left 1
  ·simp [go_sem, e2, cx, HL_.out w cx, hil]
   try with_reducible rfl
  ·exact IsV.mk (w := w)
 ·intro A w cx hO hD
  have e4 := evO hO 4 rfl
  clear hD hO
  refine hdV rfl ?_ rfl rfl ?_ ?_
  rotate_left 1
  ·simp [go_sem, e4, cx, HL_.out w cx, hil]
   try with_reducible rfl
  ·exact IsV.mk (w := w)
 ·intro A w cx hO hD
  have e5 := evO hO 5 rfl
  clear hD hO
  refine hdV rfl ?_ rfl rfl ?_ ?_
  rotate_left 1
  ·simp [go_sem, e5, cx, HL_.out w cx, hil]
   try with_reducible rfl
  ·exact IsV.mk (w := w)
 ·intro A w cx hO hD
  have e30 := evD (hD 4 (by kernel_rfl) 30 rfl)
  clear hD hO
  refine hdV rfl ?_ rfl rfl ?_ ?_
  rotate_left 1
  ·simp [go_sem, e30, cx, HL_.out w cx, hil]
   try with_reducible rfl
  ·exact IsV.mk (w := w)
 ·intro A w cx hO hD
  have e2 := evO hO 2 rfl
  clear hD hO
  refine hdV rfl ?_ rfl rfl ?_ ?_
  rotate_left 1
  ·simp [go_sem, e2, cx, HL_.out w cx, hil]
   try with_reducible rfl
  ·exact IsV.mk (w := w)
 ·intro A w cx hO hD
  have e31 := evD (hD 5 (by kernel_rfl) 31 rfl)
  have e32 := evD (hD 6 (by kernel_rfl) 32 rfl)
  clear hD hO
  refine hdV rfl ?_ rfl rfl ?_ ?_
  rotate_left 1
  ·simp [go_sem, e31, e32, cx, HL_.out w cx, hil]
   try with_reducible rfl
  ·exact IsV.mk (w := w)
 ·intro A w cx hO hD
  have e33 := evD (hD 7 (by kernel_rfl) 33 rfl)
  clear hD hO
  refine hdV rfl ?_ rfl rfl ?_ ?_
  rotate_left 1
  ·simp [go_sem, e33, cx, HL_.out w cx, hil]
   try with_reducible rfl
  ·exact IsV.mk (w := w)
 ·intro A w cx hO hD
  have e5 := evO hO 5 rfl
  clear hD hO
  refine hdV rfl ?_ rfl rfl ?_ ?_
  rotate_left 1
  ·simp [go_sem, e5, cx, HL_.out w cx, hil]
   try with_reducible rfl
  ·exact IsV.mk (w := w)
 ·intro A w cx hO hD
  have e1 := evO hO 1 rfl
  clear hD hO
  refine hdV rfl ?_ rfl rfl ?_ ?_
  rotate_left 1
  ·simp [go_sem, e1, cx, HL_.out w cx, hil]
   try with_reducible rfl
  ·exact IsV.mk (w := w)
 ·intro A w cx hO hD
  have e35 := evD (hD 9 (by kernel_rfl) 35 rfl)
  have e36 := evD (hD 10 (by kernel_rfl) 36 rfl)
  clear hD hO
  refine hdW rfl rfl ?_
  simp [go_sem, e35, e36]
  refine (mseen_any _ pn pc (H.out.2.of (HEV.out.trans cx)) t ti HT.out f HF.out HVn.out).mono ?_
  rintro e w' ⟨q, rfl, ⟨r', rfl⟩, hv⟩
  exact ⟨_, rfl, ⟨r', rfl⟩, q, rfl, hv⟩
 ·intro A w cx hO hD
  have e2 := evO hO 2 rfl
  clear hD hO
  refine hdV rfl ?_ rfl rfl ?_ ?_
  rotate_left 1
  ·simp [go_sem, e2, cx, HL_.out w cx, hil]
   try with_reducible rfl
  ·exact IsV.mk (w := w)
 ·intro A w cx hO hD
  have e37 := hD 11 (by kernel_rfl) 37 rfl
  rw [ev_tm] at e37
  have e38 := evD (hD 12 (by kernel_rfl) 38 rfl)
  clear hD hO
  refine hdW rfl rfl ?_
  obtain ⟨q, e37, hv⟩ := e37
  simp [go_sem, e37, e38]
  refine (vat_any hv at_ HAw.out).mono ?_
  rintro e w' ⟨rfl, r', rfl⟩
  exact ⟨_, rfl, ⟨r', rfl⟩, rfl⟩
 ·intro A w cx hO hD
  have e29 := evD (hD 3 (by kernel_rfl) 29 rfl)
  have e34 := evD (hD 8 (by kernel_rfl) 34 rfl)
  have e39 := evD (hD 13 (by kernel_rfl) 39 rfl)
  clear hD hO
  refine hdW rfl rfl ?_
  simp [go_sem, e29, e34, e39]
  refine (plast_any 0 _ q1 q2 q3 HQ2.out.1 HQ2.out.2.1 _).mono ?_
  rintro e w' ⟨rfl, r', rfl⟩
  exact ⟨_, rfl, ⟨r', rfl⟩, rfl⟩
 ·intro A w cx hO hD
  have e3 := evO hO 3 rfl
  clear hD hO
  refine hdV rfl ?_ rfl rfl ?_ ?_
  rotate_left 1
  ·simp [go_sem, e3, cx, HL_.out w cx, hil]
   try with_reducible rfl
  ·exact IsV.mk (w := w)
 ·intro A w cx hO hD
  have e26 := evD (hD 0 (by kernel_rfl) 26 rfl)
  have e27 := evD (hD 1 (by kernel_rfl) 27 rfl)
  have e28 := evD (hD 2 (by kernel_rfl) 28 rfl)
  have e40 := evD (hD 14 (by kernel_rfl) 40 rfl)
  have e41 := evD (hD 15 (by kernel_rfl) 41 rfl)
  clear hD hO
  refine hdW rfl rfl ?_
  simp [go_sem, e26, e27, e28, e40, e41]
  refine (mfinds_any (P := P) (fun b h => Nat.lt_of_lt_of_le (HP.out b h) (HEV.out.trans cx).size) (H.out.of (HEV.out.trans cx)) t ti HT.out f HF.out HVn.out HPn.out at_ l HLl.out (q2 - 1) x1 x2 x3 x4 g (by rw [HQ2.out.2.2]; exact HM.out) (by have := HI.out; have := HQ2.out.2.2; omega) true).mono ?_
  rintro e w' ⟨va', vc', rfl, ⟨r', rfl⟩, hm⟩
  rw [HQ2.out.2.2] at hm
  exact ⟨_, rfl, ⟨r', rfl⟩, va', vc', rfl, hm.imp (fun n h => h.imp id (fun h => h.to cx.size TyK.refl))⟩
 ·intro A w cx hO hD
  have e42 := hD 16 (by kernel_rfl) 42 rfl
  rw [ev_tm] at e42
  clear hD hO
  refine hdW rfl rfl ?_
  obtain ⟨va', vc', e42, hm⟩ := e42
  simp [go_sem, e42]
  exact ⟨_, rfl, Ext.refl _, va', vc', rfl, hm⟩
 ·intro A w cx hO hD
  have e25 := hD 17 (by kernel_rfl) 25 rfl
  rw [ev_tm] at e25
  clear hD hO
  refine hdW rfl rfl ?_
  obtain ⟨va', vc', e25, hm⟩ := e25
  simp [go_sem, e25]
  exact ⟨_, rfl, Ext.refl _, va', vc', rfl, hm⟩
 ·intro A w cx hO hD
  have e25 := hD 17 (by kernel_rfl) 25 rfl
  rw [ev_tm] at e25
  clear hD hO
  refine hdW rfl rfl ?_
  obtain ⟨va', vc', e25, hm⟩ := e25
  simp [go_sem, e25]
  exact ⟨_, rfl, Ext.refl _, rfl⟩
 ·intro A w cx hO hD
  clear hD hO
  refine hdW rfl rfl ?_
  simp [go_sem]
  exact ⟨_, rfl, Ext.of_alloc _ _, _, rfl, heap_newH rfl, cx.size⟩
 ·intro A w cx hO hD
  clear hD hO
  refine hdW rfl rfl ?_
  simp [go_sem]
  exact ⟨_, rfl, Ext.of_alloc _ _, _, rfl, heap_newH rfl, cx.size⟩
 intro u wx hC hF
 obtain ⟨f0, f1, f2, f3, f4, f5, f6, f7, f8, f9, f10, f11, f12, f13, f14, f15, f16, f17, f18, f19, f20, f21, _⟩ := hF
 have g0 : u 0 = _ := f0
 have g1 : u 1 = _ := f1
 have g2 : u 2 = _ := f2
 have g3 : u 3 = _ := f3
 have g4 : u 4 = _ := f4
 have g5 : u 5 = _ := f5
 have g6 : u 6 = _ := f6
 have g7 : u 7 = _ := f7
 have g8 : u 8 = _ := f8
 have g9 : u 9 = _ := f9
 have g10 : u 10 = _ := f10
 obtain ⟨v11, g11⟩ : ∃ v, u 11 = v := ⟨_, rfl⟩
 rw [g11] at f11
 have g12 : u 12 = _ := f12
 have g13 : u 13 = _ := f13
 have g14 : u 14 = _ := f14
 have g15 : u 15 = _ := f15
 obtain ⟨v16, g16⟩ : ∃ v, u 16 = v := ⟨_, rfl⟩
 rw [g16] at f16
 obtain ⟨v17, g17⟩ : ∃ v, u 17 = v := ⟨_, rfl⟩
 rw [g17] at f17
 obtain ⟨v18, g18⟩ : ∃ v, u 18 = v := ⟨_, rfl⟩
 rw [g18] at f18
 have g19 : u 19 = _ := f19
 obtain ⟨v20, g20⟩ : ∃ v, u 20 = v := ⟨_, rfl⟩
 rw [g20] at f20
 obtain ⟨v21, g21⟩ : ∃ v, u 21 = v := ⟨_, rfl⟩
 rw [g21] at f21
 simp only [fPut, Nat.zero_add, Nat.reduceAdd, g0, g1, g2, g3, g4, g5, g6, g7, g8, g9, g10, g11, g12, g13, g14, g15, g16, g17, g18, g19, g20, g21, Act.put, List.setIfInBounds_toArray, List.set_cons_zero, List.set_cons_succ, List.length_cons, List.length_nil, List.drop_succ_cons, List.drop_zero]
 clear g0 g1 g2 g3 g4 g5 g6 g7 g8 g9 g10 g11 g12 g13 g14 g15 g16 g17 g18 g19 g20 g21 f0 f1 f2 f3 f4 f5 f6 f7 f8 f9 f10 f12 f13 f14 f15 f19
 obtain ⟨va', vc', rfl, hme⟩ := f18
 obtain ⟨ba, rfl, hba, hba2⟩ := f20
 obtain ⟨bb, rfl, hbb, hbb2⟩ := f21
 have HX := hid hC
 have HMe := hid hme
 have hab : ba ≠ bb := by intro h; subst h; rw [hba] at hbb; cases hbb
 have HNa := hid (show ¬ (P ba ∨ NewB memD V wx ba) from fun h => by rcases h with h | h; (have := HP.out _ h; have := HEV.out.size; omega); exact h.not hba (by decide))
 have HNb := hid (show ¬ (P bb ∨ NewB memD V wx bb) from fun h => by rcases h with h | h; (have := HP.out _ h; have := HEV.out.size; omega); exact h.not hbb (by decide))
 have hba := blk_heap hba
 have hbb := blk_heap hbb
 have HBa := hid hba
 have HBb := hid hbb
 have HAB := hid (And.intro hab (And.intro hba2 hbb2))
 have x0 := hba.2.2 0 _ rfl
 have x1' := hba.2.2 1 _ rfl
 have xf := hba.2.1
 have xg := hba.1
 have y0 := hbb.2.2 0 _ rfl
 have y1 := hbb.2.2 1 _ rfl
 have y2 := hbb.2.2 2 _ rfl
 have yf := hbb.2.1
 have yg := hbb.1
 have hba' : ¬ ba = bb := hab
 have hbb' : ¬ bb = ba := fun h => hab h.symm
 clear hC hme hba hbb hab hba2 hbb2
 go_upto_region 5 with fail
 generalize hZ : World.setCell _ _ _ = Z
 have HMz := hid (show MeR Z (fun b => P b ∨ NewB memD V wx b) (.slice (some ⟨b, o, none⟩) pn pc) (.slice va' vn vc') (meFinds m ti at_ (l.length - 1) true f g) from by rw [← hZ]; exact MeR.kp HMe.out (((((KpB.refl.setCell HNa.out _).setCell HNa.out _).setCell HNb.out _).setCell HNb.out _).setCell HNb.out _))
 have HTz := hid (show TyK memD wx Z from by rw [← hZ]; exact tyP)
 have HZa := hid (show Blk Z ba [.slice (some ⟨b, o, none⟩) pn pc, .slice va' vn vc'] from by rw [← hZ]; exact Blk.other' hbb' (Blk.other' hbb' (Blk.other' hbb' (((HBa.out).set 0 (by simp) _).set 1 (by simp) _))))
 have HZb := hid (show Blk Z bb [.int .i64 x1, .int .u32 x2, .int .u32 x3] from by rw [← hZ]; exact (((Blk.other' hba' (Blk.other' hba' HBb.out)).set 0 (by simp) _).set 1 (by simp) _).set 2 (by simp) _)
 have HEz := hid (show Ext V Z from by rw [← hZ]; exact ((((HX.out.setCell HAB.out.2.1 _).setCell HAB.out.2.1 _).setCell HAB.out.2.2 _).setCell HAB.out.2.2 _).setCell HAB.out.2.2 _)
 clear hZ x0 x1' xf xg y0 y1 y2 yf yg HBa HBb hba' hbb'
 have hV10 := HB10.out.of HEz.out
 have hV11 := HB11.out.of HEz.out
 have x0 := HZa.out.2.2 0 _ rfl
 have x1' := HZa.out.2.2 1 _ rfl
 have xg := HZa.out.1
 have y0 := HZb.out.2.2 0 _ rfl
 have y1 := HZb.out.2.2 1 _ rfl
 have y2 := HZb.out.2.2 2 _ rfl
 have yg := HZb.out.1
 have b0 := hV10.2.2 0 _ rfl
 have b1 := hV10.2.2 1 _ rfl
 have bf := hV10.2.1
 have bg := hV10.1
 have c0 := hV11.2.2 0 _ rfl
 have c1 := hV11.2.2 1 _ rfl
 have c2 := hV11.2.2 2 _ rfl
 have cf := hV11.2.1
 have cg := hV11.1
 have hb11 := HB11.out.1
 have hab := HAB.out
 have hgw := HGw.out
 have HSt := hid (show ∀ w', Gr2 (g0 + 1) (g0 + 1 + 1) Z w' → (fun w' => (w'.cell? ⟨ba, 0, none⟩ = some (.slice (some ⟨b, o, none⟩) pn pc) ∧ w'.cell? ⟨ba, 1, none⟩ = some (.slice va' vn vc')) ∧ (w'.cell? ⟨bb, 0, none⟩ = some (.int .i64 x1) ∧ w'.cell? ⟨bb, 1, none⟩ = some (.int .u32 x2) ∧ w'.cell? ⟨bb, 2, none⟩ = some (.int .u32 x3)) ∧ (ba < w'.heap.size ∧ bb < w'.heap.size)) w' from fun w' G => ⟨⟨G.cell (by omega) (by omega) x0, G.cell (by omega) (by omega) x1'⟩, ⟨G.cell (by omega) (by omega) y0, G.cell (by omega) (by omega) y1, G.cell (by omega) (by omega) y2⟩, Nat.lt_of_lt_of_le xg G.1, Nat.lt_of_lt_of_le yg G.1⟩)
 have HNs := hid (show g0 + 1 + 1 < V.heap.size from hb11)
 clear hV10 hV11 hb11 hab hgw
 refine wp_region_held_drew (S := fun w' => (w'.cell? ⟨ba, 0, none⟩ = some (.slice (some ⟨b, o, none⟩) pn pc) ∧ w'.cell? ⟨ba, 1, none⟩ = some (.slice va' vn vc')) ∧ (w'.cell? ⟨bb, 0, none⟩ = some (.int .i64 x1) ∧ w'.cell? ⟨bb, 1, none⟩ = some (.int .u32 x2) ∧ w'.cell? ⟨bb, 2, none⟩ = some (.int .u32 x3)) ∧ (ba < w'.heap.size ∧ bb < w'.heap.size)) (by kernel_rfl) (by exact HSt.out _ (by repeat (first | with_reducible exact Gr2.refl | ((with_reducible refine Gr2.setL ?_ _ _)) | ((with_reducible refine Gr2.setR ?_ _ _)) | ((with_reducible refine Gr2.drew ?_))))) (fun hHeld => ?_)
 refine tkm 0 (v := ?_) rfl ?_ ?_
 rotate_left 1
 ·intro w hSw
  try dsimp only at hSw
  go_simp
  try with_reducible rfl
 (try simp only [Act.put, pA, pB, pC])
 refine tkm 1 (v := ?_) rfl ?_ ?_
 rotate_left 1
 ·intro w hSw
  try dsimp only at hSw
  go_simp
  try with_reducible rfl
 (try simp only [Act.put, pA, pB, pC])
 refine take_only 2 (oi := ⟨_, _, _, _, _, _⟩) (by kernel_rfl) rfl (fun K hK => ?_)
 go_simp
 have hOld := hHeld
 clear hHeld
 refine hK.out _ _ (by exact HSt.out _ (by repeat (first | with_reducible exact Gr2.refl | ((with_reducible refine Gr2.setL ?_ _ _)) | ((with_reducible refine Gr2.setR ?_ _ _)) | ((with_reducible refine Gr2.drew ?_))))) (fun hHeld => ?_)
 clear hOld hK K
 (try simp only [Act.put, pA, pB, pC])
 refine take_only 3 (oi := ⟨_, _, _, _, _, _⟩) (by kernel_rfl) rfl (fun K hK => ?_)
 go_simp
 have hOld := hHeld
 clear hHeld
 refine hK.out _ _ (by exact HSt.out _ (by repeat (first | with_reducible exact Gr2.refl | ((with_reducible refine Gr2.setL ?_ _ _)) | ((with_reducible refine Gr2.setR ?_ _ _)) | ((with_reducible refine Gr2.drew ?_))))) (fun hHeld => ?_)
 clear hOld hK K
 (try simp only [Act.put, pA, pB, pC])
 refine tkm 4 (v := ?_) rfl ?_ ?_
 rotate_left 1
 ·intro w hSw
  try dsimp only at hSw
  go_simp
  try with_reducible rfl
 (try simp only [Act.put, pA, pB, pC])
 refine wpAnyH_done (by kernel_rfl) ?_ _
 clear hHeld
 have hb11 := HNs.out
 have hgw := HGw.out
 have hev := HEV.out.size
 have HEw := hid (HEV.out.trans HEz.out)
 have hn1 : ¬ (P (g0 + 1) ∨ NewB memD V wx (g0 + 1)) := fun h => by
  rcases h with h | h
  ·have := HP.out _ h; omega
  ·have h1 := h.1; omega
 have hn2 : ¬ (P (g0 + 1 + 1) ∨ NewB memD V wx (g0 + 1 + 1)) := fun h => by
  rcases h with h | h
  ·have := HP.out _ h; omega
  ·have h1 := h.1; omega
 (repeat (first | go_values | go_skip | go_guarded | go_step | go_upon | (simp only [Int.not_lt, Int.not_le] at *; go_simp) | (go_ite <;> go_prune <;> (try go_simp))))
 refine bodyPost_ret (v := .tuple #[.agg #[.slice (some ⟨b, o, none⟩) pn pc, .slice va' vn vc'], .agg #[.int .i64 x1, .int .u32 x2, .int .u32 x3], .int .i64 0]) (by simp [results, Tryz.results142, go_sem, b0, b1, bf, bg, c0, c1, c2, cf, cg]) rfl ⟨va', vc', rfl, by exact exF, ?_⟩
 refine (MeR.kp HMz.out (((((KpB.refl.setCell hn1 _).setCell hn1 _).setCell hn2 _).setCell hn2 _).setCell hn2 _).drew).imp (fun n h => h.imp id (fun h => h.to hev (HTz.out.trans (by exact tyP))))
theorem Sl.dropM {α : Type} {w : World} {size : Nat} {enc : α → List Value} {l : List α} {a : Option Addr} {n c : Nat} (h : Sl w size enc (.slice a n c) l) (k : Nat) (hk : k ≤ l.length) :
 Sl w size enc (.slice (if c = k then a else a.map (fun x => x.add (k * size))) (l.length - k) (c - k)) (l.drop k) := by
 obtain ⟨a', c1, hv, hm, hl⟩ := h
 simp only [Value.slice.injEq] at hv
 obtain ⟨rfl, rfl, rfl⟩ := hv
 refine ⟨_, _, by rw [List.length_drop], by rw [List.length_drop]; omega, fun hn => ?_⟩
 have hkl : k < l.length := by
  rcases Nat.lt_or_ge k l.length with h | h
  ·exact h
  ·exact absurd (List.drop_eq_nil_of_le h) hn
 obtain ⟨b, o, rfl, hb, hc⟩ := hl (fun h0 => by rw [h0] at hkl; simp at hkl)
 have hadd : (⟨b, o, none⟩ : Addr).add (k * size) = ⟨b, o + k * size, none⟩ := by unfold Addr.add; split <;> simp_all
 refine ⟨b, o + k * size, by rw [if_neg (by omega), Option.map_some, hadd], hb, fun i x hx j hj => ?_⟩
 rw [List.getElem?_drop] at hx
 have := hc _ x hx j hj
 rw [Nat.add_mul] at this
 rw [← this]
 congr 2
 omega
theorem Tryz.infoHist : (Tryz.prog.info? 174).map (fun i => (i.zero, i.size, i.bytes)) = some (some (.agg #[.slice none 0 0]), 1, 24) := by kernel_rfl
theorem hs_clip_op {o : Oper} {a : Act} {K : Act → World → Prop} {Q : Exit → Act → World → Prop} {w : World} {l : List RHs}
 (s x : Operand) (ho : o.op = .call { callee := .builtin .append, args := #[s, x], argTypes := #[78, 78] })
 {sa : Option Addr} {n : Nat} (hs : a.eval s = .slice sa n n) (hsl : Sl w 1 hsE (.slice sa n n) l)
 (ad : Addr) (m c : Nat) (hx : a.eval x = .slice (some ad) m c) (news : List RHs) (hm : news.length = m) (hm0 : 0 < m)
 (hnews : ∀ (j : Nat) (u : Value), (news.flatMap hsE)[j]? = some u → w.cell? (ad.add j) = some u) (hlen : n + m ≤ 1000000)
 (h : ∀ v' r, Own (ext w r) w.heap.size 174 1 hsE v' (l ++ news) → K (a.put o.dst v') (ext w r)) : Oper.wp Tryz.prog o a w K Q := by
 obtain ⟨i0, hi, hz0, hz1, hz2⟩ := info_parts Tryz.infoHist
 exact app_clip_op Tryz.underlying78 hi hz0 hz1 hz2 rfl (by decide) hsE_len s x ho hs hsl ad m c hx news hm hm0 hnews (by unfold maxLen; omega) (by omega) h
theorem blk_newsA {α : Type} {enc : α → List Value} {w : World} {b : Nat} {x : α} (h : Blk w b (enc x)) : ∀ (j : Nat) (u : Value), ([x].flatMap enc)[j]? = some u → w.cell? ((⟨b, 0, none⟩ : Addr).add j) = some u := by
 intro j u hu
 have hadd : (⟨b, 0, none⟩ : Addr).add j = ⟨b, j, none⟩ := by unfold Addr.add; split <;> simp_all
 rw [hadd]
 exact h.2.2 j u (by simpa using hu)
theorem newMsg {w w' : World} {b : Nat} (h : NewB [181] w w' b) : NewB memD w w' b := by
 obtain ⟨h1, o, h2, h3⟩ := h
 refine ⟨h1, o, h2, ?_⟩
 cases o with
 | cells cs t fr => exact List.mem_cons_of_mem _ (List.mem_cons_of_mem _ h3)
 | map es c => trivial
 | _ => exact h3
theorem hs_append_gb {ops : Array Oper} {rest : List Oper} {o : Oper} {a : Act} {Q : Exit → Act → World → Prop} {w : World} {base : Nat} {v : Value} {l : List RHs} (hgd : o.guard = none)
 (s x : Operand) (ho : o.op = .call { callee := .builtin .append, args := #[s, x], argTypes := #[78, 78] })
 (hbw : base ≤ w.heap.size) (hs : a.eval s = v) (hown : Own w base 174 1 hsE v l)
 (ad : Addr) (m c : Nat) (hx : a.eval x = .slice (some ad) m c) (news : List RHs) (hm : news.length = m)
 (hnews : ∀ (j : Nat) (u : Value), (news.flatMap hsE)[j]? = some u → w.cell? (ad.add j) = some u)
 (hlen : l.length + m ≤ 1000000)
 (h : ∀ v' w', Own w' base 174 1 hsE v' (l ++ news) → w.grownBy w' v.ownBlock → wpList Tryz.prog ops Q rest (a.put o.dst v') w') : wpList Tryz.prog ops Q (o :: rest) a w := by
 obtain ⟨i0, hi, hz0, hz1, hz2⟩ := info_parts Tryz.infoHist
 have hl : (news.flatMap hsE).length = m * 1 := by rw [← hm]; exact flat_len hsE_len news
 refine wpList_append_own_at w hgd s x 78 ho base 174 i0 _ 1 _ Tryz.underlying78 hi hz0 hz1 hz2 rfl (by decide) v l.length (l.flatMap hsE) hs hown ad m c (news.flatMap hsE) hx hl hnews
  (fun u hu => by obtain ⟨y, _, hy⟩ := List.mem_flatMap.1 hu; simp at hy; rw [hy]; rfl) (by unfold maxLen; omega) (by omega) hbw ?_
 intro v' w' h1 h2 _ h4
 refine h v' w' ?_ h2
 have e1 : (l ++ news).length = l.length + m := by simp [hm]
 have e2 : (l ++ news).flatMap hsE = l.flatMap hsE ++ news.flatMap hsE := by simp
 unfold Own
 rw [e1, e2]
 exact h1
theorem kp_grown {P : Nat → Prop} {w w' : World} {row : Option Nat} (hg : w.grownBy w' row) (hr : ∀ g, row = some g → ¬ P g ∧ ∃ cs t fr, w.heap[g]? = some (.cells cs t fr)) : KpB P w w' := by
 refine ⟨hg.size, fun b hb hl => hg.block b hl (fun he => (hr b he.symm).1 hb), fun b es c e => ?_⟩
 rw [hg.block b (Array.getElem?_eq_some_iff.1 e).1 (fun he => by obtain ⟨_, cs, t, fr, e2⟩ := hr b he.symm; rw [e] at e2; cases e2)]
 exact e
theorem newb_grown {D : List TypeId} {w0 w w' : World} {row : Option Nat} {b : Nat} (h : NewB D w0 w b) (hg : w.grownBy w' row) (hne : some b ≠ row) : NewB D w0 w' b := by
 obtain ⟨h1, o, h2, h3⟩ := h
 exact ⟨h1, o, (hg.block b (Array.getElem?_eq_some_iff.1 h2).1 hne).trans h2, h3⟩
theorem own_typed {α : Type} {enc : α → List Value} {base : Nat} {e : TypeId} {size : Nat} {v : Value} {l : List α} {w : World} (h : Own w base e size enc v l) {g : Nat} (hg : v.ownBlock = some g) : base ≤ g ∧ ∃ cs, w.heap[g]? = some (.cells cs e (0, 0)) := by
 rcases h.2 with ⟨h1, _⟩ | ⟨g', cap, cur, h1, hb, h3, _⟩
 ·rw [h1] at hg; cases hg
 ·rw [h1] at hg; simp [Value.ownBlock] at hg; subst hg; exact ⟨hb, _, h3⟩
def meAdds (m : Me) (ti at_ : Nat) (f : Int → Nat) (l : List Mg) (x : Wd) (t : Int) (whole : Bool) : Me :=
 ⟨m.pl.set at_ (l ++ [⟨x, t, if whole = true then vWith f at_ l.length else vWith (fun _ => 0) at_ l.length⟩]), m.vs.set ti (vWith f at_ l.length)⟩
set_option maxRecDepth 100000 in
set_option maxHeartbeats 1000000 in
theorem madds_any {w : World} {P : Nat → Prop} (hP : ∀ b, P b → b < w.heap.size) {pa va : Option Addr} {pn pc vn vc : Nat} {m : Me} (h : MeR w P (.slice pa pn pc) (.slice va vn vc) m) (t ti : Nat) (ht : t = ti + 1) (f : Int → Nat) (hf : m.vs[ti]? = some f) (hvn : vn ≤ 1000) (hpn : pn ≤ 5000)
 (at_ : Nat) (l : List Mg) (hl : m.pl[at_]? = some l) (x1 x2 x3 : Int) (hi : l.length ≤ 900000) (whole : Bool) :
 Calls Tryz.prog 138 #[.agg #[.slice pa pn pc, .slice va vn vc], .int .i64 t, .int .i64 at_, .agg #[.int .i64 x1, .int .u32 x2, .int .u32 x3], .bool whole] w fun e w' => ∃ pa' pc' va' vc', e = .returned (.agg #[.slice pa' pn pc', .slice va' vn vc']) ∧ Ext w w' ∧ MeR w' (fun b => P b ∨ NewB memD w w' b) (.slice pa' pn pc') (.slice va' vn vc') (meAdds m ti at_ f l (x1, x2, x3) t whole) := by
 have H := hid h
 have HP := hid hP
 have HF := hid hf
 have HT := hid ht
 have HI := hid hi
 have HVn := hid hvn
 have HPn := hid hpn
 have htl := hid (List.getElem?_eq_some_iff.1 hf).1
 have HLl := hid hl
 have hpl : pn = m.pl.length := by obtain ⟨a', c', hv, _⟩ := h.1.shape; simp only [Value.slice.injEq] at hv; exact hv.2.1
 obtain ⟨hs, h1, h2, h3⟩ := id h.1
 have hal : at_ < m.pl.length := (List.getElem?_eq_some_iff.1 hl).1
 obtain ⟨q, hq⟩ : ∃ q, hs[at_]? = some q := ⟨hs[at_]'(by omega), List.getElem?_eq_getElem _⟩
 obtain ⟨hx1, b, o, rfl, hb, hc⟩ := h1.1.at hq
 have c0 := hc 0 (by omega)
 simp at c0
 obtain ⟨q1, q2, q3⟩ := q
 dsimp only at c0
 have HV := hid (h3 at_ _ l hq hl)
 have hq2 : q2 = l.length := by obtain ⟨a', c', hv, _⟩ := HV.out.shape; simp only [Value.slice.injEq] at hv; exact hv.2.1
 have HQ2 := hid hq2
 have H1 := hid h1
 have H2 := hid h2
 have H3 := hid h3
 have HX1 := hid hx1
 have hil : (at_ : Int) < (pn : Int) := by omega
 have HAw := hid (show (Lit.int .i64 (at_ : Int)).wf = true from wf64 (by omega) (by omega))
 have HAl := hid (show at_ < pn ∧ pn ≤ 5000 from ⟨by omega, hpn⟩)
 clear h h1 h2 h3 hq hl hc hal hP hf ht hi hvn hpl hpn hq2 hx1
 go_enter Tryz.func138, Tryz.ntmps138
 go_upto_region 2 with fail
 generalize hV : World.alloc _ _ = V
 have HEV := hid (show Ext w V by rw [← hV]; exact exP)
 have HB5 := hid (show Blk V w.heap.size [.slice (some ⟨b, o, none⟩) pn pc, .slice va vn vc] by rw [← hV]; exact bkP)
 have HB8 := hid (show Blk V (w.heap.size + 1) [.int .i64 x1, .int .u32 x2, .int .u32 x3] by rw [← hV]; exact bkP)
 have HB10 := hid (show Blk V (w.heap.size + 1 + 1) [.slice none 0 0, .slice none 0 0] by rw [← hV]; exact bkP)
 have HB11 := hid (show Blk V (w.heap.size + 1 + 1 + 1) [.slice q1 q2 q3] by rw [← hV]; exact bkP)
 obtain ⟨g0, hg0⟩ : ∃ g, g = w.heap.size := ⟨_, rfl⟩
 have HGw := hid (show w.heap.size = g0 from hg0.symm)
 rw [← hg0] at HB5 HB8 HB10 HB11 ⊢
 have hbV := Nat.lt_of_lt_of_le hb HEV.out.size
 clear hV hg0 c0 hb
 have a0 := HB5.out.2.2 0 _ rfl
 have a1 := HB5.out.2.2 1 _ rfl
 have ag := HB5.out.1
 have k0 := HB11.out.2.2 0 _ rfl
 have kg := HB11.out.1
 have HL_ := hid (fun w' (h : Ext V w') => (And.intro (Nat.lt_of_lt_of_le ag h.size) (And.intro (Nat.lt_of_lt_of_le kg h.size) (And.intro (h.cell a0) (And.intro (h.cell a1) (h.cell k0))))))
 refine wp_region_facts [21, 22, 23, 24, 25, 26, 27, 12] [0, 1, 2, 3, 4, 5, 6, 7] rfl (fun w' => Ext V w') (fsAt [IsV ?_, IsV ?_, (fun v w' => ∃ q, v = .agg #[.map q] ∧ VwR w' P (.map q) f), IsV ?_, IsV ?_, IsV (.int .i64 (q2 : Nat)), (fun v w' => ∃ q, v = .agg #[.map q] ∧ VwR w' (fun b => P b ∨ V.heap.size ≤ b) (.map q) (vWith f at_ q2)), (fun v w' => ∃ b, v = .pointer (some ⟨b, 0, none⟩) ∧ Blk w' b [.map none] ∧ V.heap.size ≤ b)]) (by kernel_rfl) (by kernel_rfl) ((Ext.refl _).drew) (fun w w' h he => h.trans he) (aC (fun _ _ _ h _ => h) (aC (fun _ _ _ h _ => h) (aC (fun _ _ _ h he => by obtain ⟨q, h1, h2⟩ := h; exact ⟨q, h1, h2.of he⟩) (aC (fun _ _ _ h _ => h) (aC (fun _ _ _ h _ => h) (aC (fun _ _ _ h _ => h) (aC (fun _ _ _ h he => by obtain ⟨q, h1, h2⟩ := h; exact ⟨q, h1, h2.of he⟩) (aC (fun _ _ _ h he => by obtain ⟨q, h1, h2, h3⟩ := h; exact ⟨q, h1, h2.of he, h3⟩) (AllOn.nil))))))))) (aC ?_ (aC ?_ (aC ?_ (aC ?_ (aC ?_ (aC ?_ (aC ?_ (aC ?_ (AllOn.nil))))))))) ?_
 rotate_left 4
 ·intro A w cx hO hD
  have e5 := evO hO 5 rfl
  clear hD hO
  refine hdV rfl ?_ rfl rfl ?_ ?_
  rotate_left 1
  ·simp [go_sem, e5, cx, HL_.out w cx]
   try with_reducible rfl
  ·exact IsV.mk (w := w)
 ·intro A w cx hO hD
  have e1 := evO hO 1 rfl
  clear hD hO
  refine hdV rfl ?_ rfl rfl ?_ ?_
  rotate_left 1
  ·simp [go_sem, e1, cx, HL_.out w cx]
   try with_reducible rfl
  ·exact IsV.mk (w := w)
 ·intro A w cx hO hD
  have e21 := evD (hD 0 (by kernel_rfl) 21 rfl)
  have e22 := evD (hD 1 (by kernel_rfl) 22 rfl)
  clear hD hO
  refine hdW rfl rfl ?_
  simp [go_sem, e21, e22]
  refine (mseen_any _ pn pc (H.out.2.of (HEV.out.trans cx)) t ti HT.out f HF.out HVn.out).mono ?_
  rintro e w' ⟨q, rfl, ⟨r', rfl⟩, hv⟩
  exact ⟨_, rfl, ⟨r', rfl⟩, q, rfl, hv⟩
 ·intro A w cx hO hD
  have e2 := evO hO 2 rfl
  clear hD hO
  refine hdV rfl ?_ rfl rfl ?_ ?_
  rotate_left 1
  ·simp [go_sem, e2, cx, HL_.out w cx]
   try with_reducible rfl
  ·exact IsV.mk (w := w)
 ·intro A w cx hO hD
  have e11 := evO hO 11 rfl
  clear hD hO
  refine hdV rfl ?_ rfl rfl ?_ ?_
  rotate_left 1
  ·simp [go_sem, e11, cx, HL_.out w cx]
   try with_reducible rfl
  ·exact IsV.mk (w := w)
 ·intro A w cx hO hD
  have e25 := evD (hD 4 (by kernel_rfl) 25 rfl)
  clear hD hO
  refine hdW rfl rfl ?_
  simp [go_sem, e25]
  refine (hlen_any q1 q2 q3 _).mono ?_
  rintro e w' ⟨rfl, r', rfl⟩
  exact ⟨_, rfl, ⟨r', rfl⟩, rfl⟩
 ·intro A w cx hO hD
  have e23 := hD 2 (by kernel_rfl) 23 rfl
  rw [ev_tm] at e23
  have e24 := evD (hD 3 (by kernel_rfl) 24 rfl)
  have e26 := evD (hD 5 (by kernel_rfl) 26 rfl)
  clear hD hO
  refine hdW rfl rfl ?_
  obtain ⟨q, e23, hv⟩ := e23
  simp [go_sem, e23, e24, e26]
  refine (vwith_any hv at_ HAw.out q2 (by have := HQ2.out; have := HI.out; omega)).mono ?_
  rintro e w' ⟨v', rfl, ⟨r', rfl⟩, hv⟩
  obtain ⟨qw, rfl⟩ := hv.shape
  exact ⟨_, rfl, ⟨r', rfl⟩, qw, rfl, hv.imp (fun b h => h.imp id (fun h => Nat.le_trans cx.size h))⟩
 ·intro A w cx hO hD
  clear hD hO
  refine hdW rfl rfl ?_
  simp [go_sem]
  exact ⟨_, rfl, Ext.of_alloc _ _, _, rfl, Blk.new _ _ rfl rfl, cx.size⟩
 intro u wx hC hF
 obtain ⟨f0, f1, f2, f3, f4, f5, f6, f7, _⟩ := hF
 have g0 : u 0 = _ := f0
 have g1 : u 1 = _ := f1
 obtain ⟨v2, g2⟩ : ∃ v, u 2 = v := ⟨_, rfl⟩
 rw [g2] at f2
 have g3 : u 3 = _ := f3
 have g4 : u 4 = _ := f4
 have g5 : u 5 = _ := f5
 obtain ⟨v6, g6⟩ : ∃ v, u 6 = v := ⟨_, rfl⟩
 rw [g6] at f6
 obtain ⟨v7, g7⟩ : ∃ v, u 7 = v := ⟨_, rfl⟩
 rw [g7] at f7
 simp only [fPut, Nat.zero_add, Nat.reduceAdd, g0, g1, g2, g3, g4, g5, g6, g7, Act.put, List.setIfInBounds_toArray, List.set_cons_zero, List.set_cons_succ, List.length_cons, List.length_nil, List.drop_succ_cons, List.drop_zero]
 clear g0 g1 g2 g3 g4 g5 g6 g7 f0 f1 f3 f4 f5
 obtain ⟨qw, rfl, hqw⟩ := f6
 obtain ⟨b12, rfl, hb12, hb12s⟩ := f7
 have HX := hid hC
 have HQw := hid hqw
 have HB12 := hid hb12
 have HS12 := hid hb12s
 have x0 := hb12.2.2 0 _ rfl
 have xf := hb12.2.1
 have xg := hb12.1
 clear hC hqw hb12 hb12s
 go_upto_region 3 with fail
 generalize hY : World.setCell _ _ _ = Y
 have HEY := hid (show Ext V Y by rw [← hY]; exact HX.out.setCell HS12.out _)
 have HQy := hid (show VwR Y (fun b => P b ∨ V.heap.size ≤ b) (.map qw) (vWith f at_ q2) by rw [← hY]; exact HQw.out.kpm (P' := fun _ => False) (by (show KpB _ _ _; repeat first | (with_reducible first | exact KpB.refl | refine KpB.ext ?_ _ | refine KpB.alloc ?_ _ | refine KpB.drew ?_ | refine KpB.setCell ?_ (fun h => h) _) | exact KpB.refl)))
 have HBy := hid (show Blk Y b12 [.map qw] by rw [← hY]; exact HB12.out.set 0 (by simp) _)
 clear hY x0 xf xg HX HQw HB12 a0 a1 ag k0 kg
 have x0 := HBy.out.2.2 0 _ rfl
 have xg := HBy.out.1
 go_upto_if 30 with fail
 generalize hW : World.alloc _ _ = W
 have HEW := hid (show Ext Y W by rw [← hW]; exact exP)
 have HB13 := hid (show Blk W Y.heap.size [.map qw] by rw [← hW]; exact bkP)
 obtain ⟨g13, hg13⟩ : ∃ g, g = Y.heap.size := ⟨_, rfl⟩
 have HG13 := hid (show V.heap.size ≤ g13 by rw [hg13]; exact HEY.out.size)
 rw [← hg13] at HB13 ⊢
 have HEVW := hid (HEY.out.trans HEW.out)
 have HQW := hid (HQy.out.of HEW.out)
 have HBW12 := hid (HBy.out.of HEW.out)
 have HG12 := hid (show b12 < g13 by rw [hg13]; exact HBy.out.1)
 clear hW hg13 x0 xg HEW HBy HQy
 go_cut [] (fun wx => ∃ qt, Hid (Blk wx g13 [.map qt]) ∧ Hid (VwR wx (fun b => P b ∨ V.heap.size ≤ b) (.map qt) (if whole = true then vWith f at_ q2 else vWith (fun _ => 0) at_ q2)) ∧ Hid (Blk wx b12 [.map qw]) ∧ Hid (VwR wx (fun b => P b ∨ V.heap.size ≤ b) (.map qw) (vWith f at_ q2)) ∧ Hid (Ext V wx))
 case first =>
  cases whole
  ·have h11 := HB11.out.of HEVW.out
   have k0 := h11.2.2 0 _ rfl
   have kg := h11.1
   have m0 := HB13.out.2.2 0 _ rfl
   have mf := HB13.out.2.1
   have mg := HB13.out.1
   clear h11
   go_wp2_with (go_call (hlen_any q1 q2 q3 _) as e w' ⟨rfl, r1, rfl⟩)
   refine (vwith_any (VwR.zero _ (fun b => P b ∨ V.heap.size ≤ b)) at_ HAw.out q2 (by have := HQ2.out; have := HI.out; omega)).mono ?_
   rintro e w4 ⟨v', rfl, he, hv⟩
   obtain ⟨qj, rfl⟩ := hv.shape
   have HS4 := hid (show Ext W w4 from Ext.trans (by exact exP) he)
   have HQj := hid (show VwR w4 (fun b => P b ∨ V.heap.size ≤ b) (.map qj) _ from hv.imp (fun b h => h.elim id (fun h => .inr (by have h1 := HEVW.out.size; simp at h; omega))))
   have hb := HB13.out.of HS4.out
   clear k0 kg m0 mf mg he hv
   have k0 := hb.2.2 0 _ rfl
   have k1 := hb.2.1
   have k2 := hb.1
   have HXb := hid hb
   clear hb
   go_wp2_with fail
   go_meet
   exact ⟨qj, hid (by (show Blk _ _ _; repeat first | (with_reducible first | (refine xH ?_; assumption) | apply bD | apply bX) | ((with_reducible refine bN _ _ rfl ?_); first | with_reducible rfl | focus (simp; done)) | ((with_reducible apply bE); first | with_reducible rfl | focus (simp; done)) | (with_reducible first | apply bA | assumption | apply bS) | ((with_reducible refine bO ?_ ?_); first | omega | (simp; omega)) | (show List.set _ _ _ = _; exact rfl) | focus (show _ < List.length _; simp; done))), hid (HQj.out.kpm (P' := fun _ => False) (by (show KpB _ _ _; repeat first | (with_reducible first | exact KpB.refl | refine KpB.ext ?_ _ | refine KpB.alloc ?_ _ | refine KpB.drew ?_ | refine KpB.setCell ?_ (fun h => h) _) | exact KpB.refl))), hid (Blk.other' (by have := HG12.out; omega) (HBW12.out.of HS4.out)), hid ((HQW.out.of HS4.out).kpm (P' := fun _ => False) (by (show KpB _ _ _; repeat first | (with_reducible first | exact KpB.refl | refine KpB.ext ?_ _ | refine KpB.alloc ?_ _ | refine KpB.drew ?_ | refine KpB.setCell ?_ (fun h => h) _) | exact KpB.refl))), hid (Ext.setCell (HEVW.out.trans HS4.out) HG13.out _)⟩
  ·go_wp2_with fail
   go_meet
   exact ⟨qw, HB13, HQW, HBW12, HQW, HEVW⟩
 case rest =>
 clear HB13 HQW HBW12 HEVW
 obtain ⟨qt, HB13, HQt, HB12, HQw, HEc⟩ := hcut
 obtain ⟨Y1, rfl⟩ : ∃ Y1 : World, Y1 = wc := ⟨_, rfl⟩
 go_upto_region 6 with fail
 have h5 := HB5.out.of HEc.out
 have a0 := h5.2.2 0 _ rfl
 have a1 := h5.2.2 1 _ rfl
 have ag := h5.1
 clear h5
 have hsum : wrap64 ((at_ : Int) + 1) = ((at_ + 1 : Nat) : Int) := by have := HAl.out; rw [IntWalk.wrap64_in _ (by omega)]; omega
 obtain ⟨k1, hk1⟩ : ∃ k, k = at_ + 1 := ⟨_, rfl⟩
 have HK1 := hid hk1
 rw [← hk1] at hsum
 have hk2 : k1 ≤ pn := by have := HAl.out; omega
 have hk3 : (k1 : Int) ≤ (pn : Int) := by omega
 have hpc := hid (H1.out.shape)
 clear hk1
 go_cut [14] (fun v14 wx => ∃ (r : Addr) (c : Nat), v14 = .slice (some r) (pn - k1) c ∧ Hid (Sl Y1 1 hsE (.slice (some r) (pn - k1) c) (hs.drop k1)) ∧ Hid (Ext Y1 wx))
 case first =>
  have hdr := Sl.dropM ((H1.out.1.of hsE_len HEV.out).of hsE_len HEc.out) k1 (by have := HX1.out; omega)
  rw [show hs.length - k1 = pn - k1 by rw [HX1.out]] at hdr
  have HD := hid hdr
  clear hdr
  by_cases hc : pc = k1
  ·rw [if_pos hc] at HD
   have hcd : (pc = k1) = True := eq_true hc
   have hci : ((pc : Int) = (k1 : Int)) = True := eq_true (by omega)
   have HC := hid hc
   clear hc
   go_wp2_with fail
   go_meet
   exact ⟨_, _, rfl, HD, hid (Ext.refl _)⟩
  ·rw [if_neg hc] at HD
   go_wp2_with fail
   go_meet
   exact ⟨_, _, rfl, hid (by have := HD.out; simpa [Addr.add, show k1 ≠ 0 by have := HK1.out; omega] using this), hid (Ext.refl _)⟩
 case rest =>
 obtain ⟨r14, c14, rfl, HD14, HE14⟩ := hcut
 clear hsum hk2 hk3 a0 a1 ag
 have HEW := hid (HEc.out.trans HE14.out)
 have h5 := HB5.out.of HEW.out
 have h8 := HB8.out.of HEW.out
 have h11 := HB11.out.of HEW.out
 have h13 := HB13.out.of HE14.out
 have a0 := h5.2.2 0 _ rfl
 have a1 := h5.2.2 1 _ rfl
 have ag := h5.1
 have b0 := h8.2.2 0 _ rfl
 have b1 := h8.2.2 1 _ rfl
 have b2 := h8.2.2 2 _ rfl
 have bg := h8.1
 have k0 := h11.2.2 0 _ rfl
 have kg := h11.1
 have m0 := h13.2.2 0 _ rfl
 have mg := h13.1
 have hil2 : (at_ : Int) ≤ (pn : Int) := by omega
 have hcp := HX1.out
 have hpc2 : (at_ : Int) ≤ (pc : Int) := by obtain ⟨a', c', hv, hle, _⟩ := hpc.out; simp only [Value.slice.injEq] at hv; have := HAl.out; omega
 have hnn : (0 : Int) ≤ (at_ : Int) := by omega
 clear h5 h8 h11 h13 hcp
 go_upto_region 7 with fail
 have HL_ := hid (fun w' (h : Ext wc w') => (And.intro (Nat.lt_of_lt_of_le ag h.size) (And.intro (Nat.lt_of_lt_of_le bg h.size) (And.intro (Nat.lt_of_lt_of_le kg h.size) (And.intro (Nat.lt_of_lt_of_le mg h.size) (And.intro (h.cell a0) (And.intro (h.cell a1) (And.intro (h.cell b0) (And.intro (h.cell b1) (And.intro (h.cell b2) (And.intro (h.cell k0) (h.cell m0))))))))))))
 refine wp_region_facts [41, 42, 43, 44, 45, 46, 47, 48, 49, 50, 51, 52, 53, 15] [0, 1, 2, 3, 4, 5, 6, 7, 8, 9, 10, 11, 12, 13] rfl (fun w' => Ext wc w') (fsAt [IsV ?_, IsV ?_, IsV ?_, IsV ?_, IsV ?_, IsV ?_, IsV ?_, IsV ?_, IsV ?_, IsV ?_, (fun v w' => ∃ r : RHs, v = .agg #[.slice r.1 r.2.1 r.2.2] ∧ HsR w' (fun b => P b ∨ NewB [181] V w' b) (.slice r.1 r.2.1 r.2.2) (l ++ [⟨(x1, x2, x3), t, if whole = true then vWith f at_ q2 else vWith (fun _ => 0) at_ q2⟩])), (fun v w' => ∃ r : RHs, (∃ q, v = .slice (some ⟨q, 0, none⟩) 1 1 ∧ Blk w' q (hsE r)) ∧ HsR w' (fun b => P b ∨ NewB [181] V w' b) (.slice r.1 r.2.1 r.2.2) (l ++ [⟨(x1, x2, x3), t, if whole = true then vWith f at_ q2 else vWith (fun _ => 0) at_ q2⟩])), (fun v w' => ∃ r : RHs, Own w' wc.heap.size 174 1 hsE v (hs.take at_ ++ [r]) ∧ HsR w' (fun b => P b ∨ NewB [181] V w' b) (.slice r.1 r.2.1 r.2.2) (l ++ [⟨(x1, x2, x3), t, if whole = true then vWith f at_ q2 else vWith (fun _ => 0) at_ q2⟩])), (fun v w' => ∃ r : RHs, Own w' wc.heap.size 174 1 hsE v (hs.take at_ ++ [r]) ∧ HsR w' (fun b => P b ∨ NewB [181] V w' b) (.slice r.1 r.2.1 r.2.2) (l ++ [⟨(x1, x2, x3), t, if whole = true then vWith f at_ q2 else vWith (fun _ => 0) at_ q2⟩]))]) (by kernel_rfl) (by kernel_rfl) ((Ext.refl _).drew) (fun w w' h he => h.trans he) (aC (fun _ _ _ h _ => h) (aC (fun _ _ _ h _ => h) (aC (fun _ _ _ h _ => h) (aC (fun _ _ _ h _ => h) (aC (fun _ _ _ h _ => h) (aC (fun _ _ _ h _ => h) (aC (fun _ _ _ h _ => h) (aC (fun _ _ _ h _ => h) (aC (fun _ _ _ h _ => h) (aC (fun _ _ _ h _ => h) (aC (fun _ _ _ h he => by obtain ⟨r, h1, h2⟩ := h; exact ⟨r, h1, (h2.of he).imp (fun b h => h.imp id (fun h => h.to (Nat.le_refl _) (TyK.of_ext he)))⟩) (aC (fun _ _ _ h he => by obtain ⟨r, ⟨q, h1, h2⟩, h3⟩ := h; exact ⟨r, ⟨q, h1, h2.of he⟩, (h3.of he).imp (fun b h => h.imp id (fun h => h.to (Nat.le_refl _) (TyK.of_ext he)))⟩) (aC (fun _ _ _ h he => by obtain ⟨r, h1, h3⟩ := h; exact ⟨r, h1.of_ext he, (h3.of he).imp (fun b h => h.imp id (fun h => h.to (Nat.le_refl _) (TyK.of_ext he)))⟩) (aC (fun _ _ _ h he => by obtain ⟨r, h1, h3⟩ := h; exact ⟨r, h1.of_ext he, (h3.of he).imp (fun b h => h.imp id (fun h => h.to (Nat.le_refl _) (TyK.of_ext he)))⟩) (AllOn.nil))))))))))))))) (aC ?_ (aC ?_ (aC ?_ (aC ?_ (aC ?_ (aC ?_ (aC ?_ (aC ?_ (aC ?_ (aC ?_ (aC ?_ (aC ?_ (aC ?_ (aC ?_ (AllOn.nil))))))))))))))) ?_
 rotate_left 10
 ·intro A w cx hO hD
  have e5 := evO hO 5 rfl
  clear hD hO
  refine hdV rfl ?_ rfl rfl ?_ ?_
  rotate_left 1
  ·simp [go_sem, e5, cx, HL_.out w cx, hil2, hpc2, hnn]
   try with_reducible rfl
  ·exact IsV.mk (w := w)
 ·intro A w cx hO hD
  have e41 := evD (hD 0 (by kernel_rfl) 41 rfl)
  clear hD hO
  refine hdV rfl ?_ rfl rfl ?_ ?_
  rotate_left 1
  ·simp [go_sem, e41, cx, HL_.out w cx, hil2, hpc2, hnn]
   try with_reducible rfl
  ·exact IsV.mk (w := w)
 ·intro A w cx hO hD
  have e2 := evO hO 2 rfl
  clear hD hO
  refine hdV rfl ?_ rfl rfl ?_ ?_
  rotate_left 1
  ·simp [go_sem, e2, cx, HL_.out w cx, hil2, hpc2, hnn]
   try with_reducible rfl
  ·exact IsV.mk (w := w)
 ·intro A w cx hO hD
  have e2 := evO hO 2 rfl
  clear hD hO
  refine hdV rfl ?_ rfl rfl ?_ ?_
  rotate_left 1
  ·simp [go_sem, e2, cx, HL_.out w cx, hil2, hpc2, hnn]
   try with_reducible rfl
  ·exact IsV.mk (w := w)
 ·intro A w cx hO hD
  have e42 := evD (hD 1 (by kernel_rfl) 42 rfl)
  have e43 := evD (hD 2 (by kernel_rfl) 43 rfl)
  have e44 := evD (hD 3 (by kernel_rfl) 44 rfl)
  clear hD hO
  refine hdV rfl ?_ rfl rfl ?_ ?_
  rotate_left 1
  ·simp [go_sem, e42, e43, e44, cx, HL_.out w cx, hil2, hpc2, hnn]
   try with_reducible rfl
  ·exact IsV.mk (w := w)
 ·intro A w cx hO hD
  have e11 := evO hO 11 rfl
  clear hD hO
  refine hdV rfl ?_ rfl rfl ?_ ?_
  rotate_left 1
  ·simp [go_sem, e11, cx, HL_.out w cx, hil2, hpc2, hnn]
   try with_reducible rfl
  ·exact IsV.mk (w := w)
 ·intro A w cx hO hD
  have e8 := evO hO 8 rfl
  clear hD hO
  refine hdV rfl ?_ rfl rfl ?_ ?_
  rotate_left 1
  ·simp [go_sem, e8, cx, HL_.out w cx, hil2, hpc2, hnn]
   try with_reducible rfl
  ·exact IsV.mk (w := w)
 ·intro A w cx hO hD
  have e1 := evO hO 1 rfl
  clear hD hO
  refine hdV rfl ?_ rfl rfl ?_ ?_
  rotate_left 1
  ·simp [go_sem, e1, cx, HL_.out w cx, hil2, hpc2, hnn]
   try with_reducible rfl
  ·exact IsV.mk (w := w)
 ·intro A w cx hO hD
  have e13 := evO hO 13 rfl
  clear hD hO
  refine hdV rfl ?_ rfl rfl ?_ ?_
  rotate_left 1
  ·simp [go_sem, e13, cx, HL_.out w cx, hil2, hpc2, hnn]
   try with_reducible rfl
  ·exact IsV.mk (w := w)
 ·intro A w cx hO hD
  have e47 := evD (hD 6 (by kernel_rfl) 47 rfl)
  have e48 := evD (hD 7 (by kernel_rfl) 48 rfl)
  have e49 := evD (hD 8 (by kernel_rfl) 49 rfl)
  clear hD hO
  refine hdV rfl ?_ rfl rfl ?_ ?_
  rotate_left 1
  ·simp [go_sem, e47, e48, e49, cx, HL_.out w cx, hil2, hpc2, hnn]
   try with_reducible rfl
  ·exact IsV.mk (w := w)
 ·intro A w cx hO hD
  have e46 := evD (hD 5 (by kernel_rfl) 46 rfl)
  have e50 := evD (hD 9 (by kernel_rfl) 50 rfl)
  clear hD hO
  refine hdW rfl rfl ?_
  simp [go_sem, e46, e50]
  refine (hadd_any (P := fun b => P b ∨ NewB [181] V Y1 b) ((HV.out.of (HEV.out.trans (HEW.out.trans cx))).imp (fun b h => .inl h)) x1 x2 x3 t qt _ ((VwR.newM HQt.out).of (HE14.out.trans cx)) (by have := HI.out; omega)).mono ?_
  rintro e w' ⟨v', rfl, ⟨r', rfl⟩, hv⟩
  obtain ⟨ra, rc, rfl, _, _⟩ := hv.shape
  exact ⟨_, rfl, ⟨r', rfl⟩, ra, _, rc, rfl, hv.imp (fun n h => h.elim (fun h => h.imp id (fun h => h.to (Nat.le_refl _) (TyK.of_ext ((HE14.out.trans cx).trans ⟨r', rfl⟩)))) (fun h => .inr (h.to (HEW.out.trans cx).size TyK.refl)))⟩
 ·intro A w cx hO hD
  have e51 := hD 10 (by kernel_rfl) 51 rfl
  rw [ev_tm] at e51
  clear hD hO
  refine hdW rfl rfl ?_
  obtain ⟨r, e51, h3⟩ := e51
  simp [go_sem, e51]
  exact ⟨_, rfl, Ext.of_alloc _ _, r.1, r.2.1, r.2.2, ⟨_, rfl, Blk.new _ _ rfl rfl⟩, (h3.of (Ext.of_alloc _ _)).imp (fun b h => h.imp id (fun h => h.to (Nat.le_refl _) (TyK.of_ext (Ext.of_alloc _ _))))⟩
 ·intro A w cx hO hD
  have e45 := evD (hD 4 (by kernel_rfl) 45 rfl)
  have e52 := hD 11 (by kernel_rfl) 52 rfl
  rw [ev_tm] at e52
  clear hD hO
  refine hdW rfl rfl ?_
  obtain ⟨r, ⟨q, e52, hq⟩, h3⟩ := e52
  refine hs_clip_op _ _ rfl ((ev_tm A 45).trans e45) (Sl.take (by rw [← HX1.out]; exact H1.out.1.of hsE_len (HEV.out.trans (HEW.out.trans cx))) at_ (by have := HAl.out; have := HX1.out; omega) at_ (Nat.le_refl _)) _ 1 1 ((ev_tm A 52).trans e52) [r] rfl (by omega) (blk_newsA hq) (by have := HAl.out; omega) ?_
  intro v' r' hv
  exact ⟨_, rfl, ⟨r', rfl⟩, r, Own.mono hv cx.size, (h3.of ⟨r', rfl⟩).imp (fun b h => h.imp id (fun h => h.to (Nat.le_refl _) (TyK.of_ext ⟨r', rfl⟩)))⟩
 ·intro A w cx hO hD
  have e53 := hD 12 (by kernel_rfl) 53 rfl
  rw [ev_tm] at e53
  clear hD hO
  refine hdW rfl rfl ?_
  obtain ⟨r, h1, h3⟩ := e53
  simp [go_sem]
  exact ⟨_, rfl, Ext.refl _, r.1, r.2.1, r.2.2, h1, h3⟩
 intro u wx hC hF
 obtain ⟨f0, f1, f2, f3, f4, f5, f6, f7, f8, f9, f10, f11, f12, f13, _⟩ := hF
 have g0 : u 0 = _ := f0
 have g1 : u 1 = _ := f1
 have g2 : u 2 = _ := f2
 have g3 : u 3 = _ := f3
 have g4 : u 4 = _ := f4
 have g5 : u 5 = _ := f5
 have g6 : u 6 = _ := f6
 have g7 : u 7 = _ := f7
 have g8 : u 8 = _ := f8
 have g9 : u 9 = _ := f9
 obtain ⟨v10, g10⟩ : ∃ v, u 10 = v := ⟨_, rfl⟩
 rw [g10] at f10
 obtain ⟨v11, g11⟩ : ∃ v, u 11 = v := ⟨_, rfl⟩
 rw [g11] at f11
 obtain ⟨v12, g12⟩ : ∃ v, u 12 = v := ⟨_, rfl⟩
 rw [g12] at f12
 obtain ⟨v13, g13⟩ : ∃ v, u 13 = v := ⟨_, rfl⟩
 rw [g13] at f13
 simp only [fPut, Nat.zero_add, Nat.reduceAdd, g0, g1, g2, g3, g4, g5, g6, g7, g8, g9, g10, g11, g12, g13, Act.put, List.setIfInBounds_toArray, List.set_cons_zero, List.set_cons_succ, List.length_cons, List.length_nil, List.drop_succ_cons, List.drop_zero]
 clear g0 g1 g2 g3 g4 g5 g6 g7 g8 g9 g10 g11 g12 g13 f0 f1 f2 f3 f4 f5 f6 f7 f8 f9
 obtain ⟨r, how, hhs⟩ := f13
 obtain ⟨ap, cp, hsp⟩ := Own.shape how
 subst hsp
 have HX := hid hC
 have HOw := hid how
 have HHs := hid hhs
 clear hC how hhs a0 a1 ag b0 b1 b2 bg k0 kg m0 mg
 have h5 := HB5.out.of (HEW.out.trans HX.out)
 have a0 := h5.2.2 0 _ rfl
 have a1 := h5.2.2 1 _ rfl
 have af := h5.2.1
 have ag := h5.1
 have HW5 := hid h5
 clear h5
 have htk := hid (show (hs.take at_ ++ [r]).length = k1 by rw [List.length_append, List.length_take, List.length_singleton]; have := HAl.out; have := HX1.out; have := HK1.out; omega)
 have hdl := hid (show (hs.drop k1).length = pn - k1 by rw [List.length_drop, HX1.out])
 rw [htk.out]
 rw [htk.out] at HOw
 have hvs0 := HEW.out.size
 have hsf := hid (Sl.flat hsE_len (by omega) ((HD14.out.of hsE_len HE14.out).of hsE_len HX.out))
 have hne := hid (show (Value.slice ap k1 cp).ownBlock ≠ some g0 from fun he => by
  have h1 := (own_typed HOw.out he).1
  have h2 := HB5.out.1
  have h3 := HEW.out.size
  omega)
 have hne12 := hid (show (Value.slice ap k1 cp).ownBlock ≠ some b12 from fun he => by
  have h1 := (own_typed HOw.out he).1
  have h2 := HB12.out.1
  have h3 := HE14.out.size
  omega)
 have hgb1 : ¬ g0 = b12 := by have := HS12.out; have := HB5.out.1; omega
 have hgb2 : ¬ b12 = g0 := fun h => hgb1 h.symm
 have hln8 := hid (show ((hs.take at_ ++ [r]) ++ hs.drop k1).length = pn by rw [List.length_append, htk.out, hdl.out]; have := HAl.out; have := HK1.out; omega)
 go_wp2_with (at_builtin; go_loud (refine hs_append_gb rfl _ _ rfl HX.out.size rfl HOw.out _ (pn - k1) c14 rfl (hs.drop k1) hdl.out hsf.out (by rw [htk.out]; have := HAl.out; have := HK1.out; omega) ?_; intro v8 w8 hv8 hg8; obtain ⟨a8, c8, hs8⟩ := Own.shape hv8; rw [hln8.out] at hs8; subst hs8; have h58 := HW5.out.gro hg8 hne.out; have HO8 := hid hv8; have HG8 := hid hg8; have HW58 := hid h58; have h512 := ((HB12.out.of HE14.out).of HX.out).gro hg8 hne12.out; have HW12 := hid h512; have e0 := h512.2.2 0 _ rfl; have eg := h512.1; have d0 := h58.2.2 0 _ rfl; have d1 := h58.2.2 1 _ rfl; have df := h58.2.1; have dg := h58.1; clear hv8 hg8 h58 h512))
 have HGr := hid (show wx.grownBy w8 (Value.slice ap k1 cp).ownBlock from HG8.out)
 clear HG8 HW58 HW12 e0 eg d0 d1 df dg a0 a1 af ag HW5
 have hgw := HGw.out
 have hg0V := HB5.out.1
 have hevs := HEV.out.size
 have hxs := HX.out.size
 have hP0 : ¬ P g0 := fun h => by have := HP.out _ h; omega
 have hrow : ∀ {g : Nat}, (Value.slice ap k1 cp).ownBlock = some g → wc.heap.size ≤ g ∧ ∃ cs, wx.heap[g]? = some (.cells cs 174 (0, 0)) := fun hg => own_typed HOw.out hg
 have kp1 : KpB P w (w8.setCell ⟨g0, 0, none⟩ (.slice a8 pn c8)) := ((KpB.of_ext (HEV.out.trans (HEW.out.trans HX.out))).trans (kp_grown HGr.out (fun g hg => by
  obtain ⟨h1, cs, h2⟩ := hrow hg
  exact ⟨fun h => (by have := HP.out _ h; omega), _, _, _, h2⟩))).setCell hP0 _
 have HE9 := hid (show Ext w (w8.setCell ⟨g0, 0, none⟩ (.slice a8 pn c8)) from (Ext.gro (HEV.out.trans (HEW.out.trans HX.out)) HGr.out (fun g hg => by have := (hrow hg).1; omega)).setCell (by show w.heap.size ≤ g0; omega) _)
 have HQ9 := hid (show VwR (w8.setCell ⟨g0, 0, none⟩ (.slice a8 pn c8)) (fun b => P b ∨ NewB memD V (w8.setCell ⟨g0, 0, none⟩ (.slice a8 pn c8)) b) (.map qw) (vWith f at_ q2) from VwR.newM ((HQw.out.of (HE14.out.trans HX.out)).kpm (P' := fun _ => False) ((kp_grown HGr.out (fun g hg => by
  obtain ⟨h1, cs, h2⟩ := hrow hg
  exact ⟨fun h => h, _, _, _, h2⟩)).setCell (fun h => h) _)))
 have HB9 := hid (show Blk (w8.setCell ⟨g0, 0, none⟩ (.slice a8 pn c8)) (g0 + 1 + 1) [.slice none 0 0, .slice none 0 0] from Blk.other' (by omega) ((HB10.out.of (HEW.out.trans HX.out)).gro HGr.out (fun he => by have := (hrow he).1; have := HB10.out.1; omega)))
 have HM9 := hid (show MeR (w8.setCell ⟨g0, 0, none⟩ (.slice a8 pn c8)) (fun b => P b ∨ NewB memD V (w8.setCell ⟨g0, 0, none⟩ (.slice a8 pn c8)) b) (.slice a8 pn c8) (.slice va vn vc) ⟨m.pl.set at_ (l ++ [⟨(x1, x2, x3), t, if whole = true then vWith f at_ q2 else vWith (fun _ => 0) at_ q2⟩]), m.vs⟩ from by
  refine ⟨⟨hs.take at_ ++ [r] ++ hs.drop k1, ?_, ?_, ?_⟩, (H.out.2.kp kp1).imp (fun b h => .inl h)⟩
  ·exact (((Sp.ownN (w0 := V) hsE_len HO8.out hvs0 (List.mem_cons_of_mem _ (List.mem_cons_self ..)) : Sp w8 _ 1 hsE _ _)).kp hsE_len (KpB.refl.setCell (fun h => by have := h.1; omega) _)).imp (fun b h => .inr (h.2.to (Nat.le_refl _) (TyK.refl.setCell _ _)))
  ·rw [List.length_set, hln8.out, HX1.out, H2.out]
  ·have hse : hs.take at_ ++ [r] ++ hs.drop k1 = hs.set at_ r := by
    rw [List.set_eq_take_append_cons_drop, if_pos (by have := HX1.out; have := HAl.out; omega), HK1.out]; simp
   rw [hse]
   intro i h l' e1 e2
   by_cases hi : i = at_
   ·subst hi
    rw [List.getElem?_set_self (by have := HX1.out; have := HAl.out; omega)] at e1
    rw [List.getElem?_set_self (by have := HX1.out; have := HAl.out; have := H2.out; omega)] at e2
    obtain rfl := Option.some.inj e1
    obtain rfl := Option.some.inj e2
    refine (HHs.out.kp ((kp_grown HGr.out (fun g hg => ?_)).setCell (fun h => ?_) _)).imp (fun b h => ?_)
    ·obtain ⟨h1, cs, h2⟩ := hrow hg
     exact ⟨fun h => h.elim (fun h => by have := HP.out _ h; omega) (fun h => h.not h2 (by decide)), _, _, _, h2⟩
    ·exact h.elim hP0 (fun h => by have := h.1; omega)
    ·refine h.imp id (fun h => (newMsg (newb_grown h HGr.out (fun he => ?_))).to (Nat.le_refl _) (TyK.refl.setCell _ _))
     obtain ⟨h1, cs, h2⟩ := hrow he.symm
     exact h.not h2 (by decide)
   ·rw [List.getElem?_set_ne (fun h => hi h.symm)] at e1
    rw [List.getElem?_set_ne (fun h => hi h.symm)] at e2
    exact ((H3.out i h l' e1 e2).kp kp1).imp (fun b h => .inl h))
 generalize hW9 : World.setCell w8 ⟨g0, 0, none⟩ (.slice a8 pn c8) = W9
 rw [hW9] at HE9 HQ9 HB9 HM9
 clear hW9 kp1 hrow hxs
 have b0 := HB9.out.2.2 0 _ rfl
 have b1 := HB9.out.2.2 1 _ rfl
 have bf := HB9.out.2.1
 have bg := HB9.out.1
 refine (mwith_any HM9.out t ti HT.out htl.out HVn.out qw _ HQ9.out).mono ?_
 rintro e w10 ⟨va', vc', rfl, he10, hm⟩
 have HE10 := hid he10
 have HM10 := hid hm
 clear hm b0 b1 bf bg
 have hb10 := HB9.out.of he10
 have b0 := hb10.2.2 0 _ rfl
 have b1 := hb10.2.2 1 _ rfl
 have bf := hb10.2.1
 have bg := hb10.1
 clear hb10 he10
 have HB10b := HB10.out.1
 have HB9b := HB9.out.1
 have hn1 : ¬ ((P (g0 + 1 + 1) ∨ NewB memD V W9 (g0 + 1 + 1)) ∨ NewB memD W9 w10 (g0 + 1 + 1)) := fun h => by
  rcases h with (h | h) | h
  ·have := HP.out _ h; omega
  ·have h1 := h.1; omega
  ·have h1 := h.1; omega
 have HN1 := hid hn1
 clear hn1 HB10b HB9b
 (repeat (first | go_values | go_skip | go_guarded | go_step | go_upon | (simp only [Int.not_lt, Int.not_le] at *; go_simp) | (go_ite <;> go_prune <;> (try go_simp))))
 refine bodyPost_ret (v := .agg #[.slice a8 pn c8, .slice va' vn vc']) (by simp [results, Tryz.results138, go_sem, b0, b1, bf, bg]) rfl ⟨a8, c8, va', vc', rfl, ((HE9.out.trans HE10.out).setCell (by show w.heap.size ≤ g0 + 1 + 1; omega) _).setCell (by show w.heap.size ≤ g0 + 1 + 1; omega) _, ?_⟩
 have hk := MeR.kp HM10.out ((KpB.refl.setCell HN1.out (i := 0) (.slice a8 pn c8)).setCell HN1.out (i := 1) (.slice va' vn vc'))
 have ht1 : TyK memD w10 ((w10.setCell ⟨g0 + 1 + 1, 0, none⟩ (.slice a8 pn c8)).setCell ⟨g0 + 1 + 1, 1, none⟩ (.slice va' vn vc')) := (TyK.refl.setCell _ _).setCell _ _
 rw [HQ2.out] at hk
 refine hk.imp (fun n h => ?_)
 rcases h with (h | h) | h
 ·exact .inl h
 ·exact .inr (h.to (by omega) ((TyK.of_ext HE10.out).trans ht1))
 ·exact .inr (h.to HE9.out.size ht1)
end Go.Proofs.YtiacdohaiidehaaGreatDoor
