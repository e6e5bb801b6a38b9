/- Walks of package help: again. The code of package help, plain: what holds of each level, and that Next keeps it. No program in sight. Worlds of tasks while a block that lies apart changes: a map of the caller's own. No condition. -/
import Derived.Test.YtiacdohaiidehaaGreatDoorPk43
import Derived.Test.YtiacdohaiidehaaGreatDoorPk21
namespace Go.Proofs.YtiacdohaiidehaaGreatDoor
set_option linter.unusedSimpArgs false
set_option linter.unusedVariables false
open Go.RowKit
theorem x0_one (t c b : Int) (dur : Bool) : (⟨t, c, b, dur, .slice none 0 0, .slice none 0 0, .nilIface⟩ : HX).One := ⟨rfl, rfl, rfl⟩
theorem hp_first_step (t c b ref : Int) (dur : Bool) (g : Gt) (w : World) (P : Nat → Prop) (hP : ∀ b, P b → b < w.heap.size) :
 Calls Tryz.prog 198 #[.agg (hL (hR (⟨t, c, b, dur, .slice none 0 0, .slice none 0 0, .nilIface⟩ : HX) (hpNew t c b ref))).toArray, .agg (gtE g).toArray] w (HnPost P (fun _ _ h a dn => h = hR (⟨t, c, b, dur, .slice none 0 0, .slice none 0 0, .nilIface⟩ : HX) (hpLook (hpNew t c b ref) 1).1 ∧ a = lookA (hpNew t c b ref).at_ ∧ dn = false) w) := by
 refine hpn_go (x0_one t c b dur) (hpNew t c b ref) rfl g (F := 29) rfl (fun _ _ => by kernel_rfl) w P hP ⟨fun h _ => h, fun h _ => h⟩ (fun V hV => ?_)
 refine (hp_begin (x0_one t c b dur) (hpNew t c b ref) g V).mono ?_
 rintro e w' ⟨rfl, he⟩
 exact ⟨_, _, _, hR_one (x0_one t c b dur) _, rfl, he, rfl, rfl, rfl⟩
set_option maxRecDepth 100000 in
set_option maxHeartbeats 1000000 in
theorem hp_again {X : HX} (ho : X.One) (d : Hd) (hd : HdN d) (hl : d.i < d.es.length) (hm : WdOk d.met) (hk : checkN X.t X.c X.b = 0) (hf : (whoN d.met.2.2).1 ≠ 0 ∧ 0 ≤ (placeN X.t X.c X.b (whoN d.met.2.2).1).1) (g : Gt) (w : World) (he : Sl w 6 enE X.es d.es) (hs : Szs w) :
 Calls Tryz.prog 168 #[.agg (hL (hR X d)).toArray, .agg (gtE g).toArray] w fun e w' => e = .returned (if g.1 = (0, d.seq, 0) then .tuple #[.agg (hL (hR { X with inn := .iface hpT (.agg (hL (hR (⟨X.t, X.c, X.b, X.dur, .slice none 0 0, .slice none 0 0, .nilIface⟩ : HX) (hpLook (hpNew X.t X.c X.b d.met.2.2) 1).1)).toArray) } { d with nx := 7 })).toArray, .agg (a8E (lookA (hpNew X.t X.c X.b d.met.2.2).at_)).toArray, .bool false] else .tuple #[.agg (hL (hR X (hpRelease X.dur d).1)).toArray, .agg (a8E (hpRelease X.dur d).2.1).toArray, .bool (hpRelease X.dur d).2.2]) ∧ Ext w w' := by
 have HO := hid ho
 have HDn := hid hd
 have HL := hid hl
 have HEs := hid he
 have HS := hid hs
 have HM := hid hm.2.2
 have HK := hid hk
 have HF := hid hf
 have HSq := hid (show 0 ≤ d.seq ∧ d.seq ≤ 4294967295 by have := hd.seq; omega)
 clear ho hd hl he hs hm hk hf
 obtain ⟨⟨g1, g2, g3⟩, gk⟩ := g
 have hneq := neq_word g1 g2 g3 0 d.seq 0
 have hga := eq_guard_word
 dsimp only
 by_cases h1 : (g1, g2, g3) = (0, d.seq, 0)
 rotate_left 1
 ·rw [if_neg h1]
  have hq1 : wdB (g1, g2, g3) (0, d.seq, 0) = false := decide_eq_false h1
  clear h1
  go_enter Tryz.func168, Tryz.ntmps168
  go_upto_region 1 with fail
  generalize hV_ : World.alloc _ _ = V
  have HE_V := hid (show Ext w V by rw [← hV_]; exact exP)
  have HB_bx := hid (show Blk V (w.heap.size) (hL (hR X d)) by rw [← hV_]; exact bkP)
  have HB_bg := hid (show Blk V (w.heap.size + 1) (gtE ((g1, g2, g3), gk)) by rw [← hV_]; exact bkP)
  have HB_br := hid (show Blk V (w.heap.size + 1 + 1) zH by rw [← hV_]; exact bkP)
  have HB_ba := hid (show Blk V (w.heap.size + 1 + 1 + 1) [.int .i64 0, .int .i64 0, .int .i64 0, .int .u32 0, .int .u32 0, .int .i64 0, .int .u32 0, .int .u32 0] by rw [← hV_]; exact bkP)
  clear hV_
  obtain ⟨ba, hg_ba⟩ : ∃ g, g = w.heap.size + 1 + 1 + 1 := ⟨_, rfl⟩
  simp only [← hg_ba] at HB_ba ⊢
  obtain ⟨br, hg_br⟩ : ∃ g, g = w.heap.size + 1 + 1 := ⟨_, rfl⟩
  simp only [← hg_br] at HB_br ⊢
  obtain ⟨bg, hg_bg⟩ : ∃ g, g = w.heap.size + 1 := ⟨_, rfl⟩
  simp only [← hg_bg] at HB_bg ⊢
  obtain ⟨bx, hg_bx⟩ : ∃ g, g = w.heap.size := ⟨_, rfl⟩
  simp only [← hg_bx] at HB_bx ⊢
  have HN_V := hid (show bx = w.heap.size ∧ bg = w.heap.size + 1 ∧ br = w.heap.size + 1 + 1 ∧ ba = w.heap.size + 1 + 1 + 1 ∧ ba < V.heap.size from ⟨hg_bx, hg_bg, hg_br, hg_ba, HB_ba.out.1⟩)
  clear hg_bx hg_bg hg_br hg_ba
  have x_seq : V.cell? ⟨bx, 6, none⟩ = some (.int .i64 d.seq) := HB_bx.out.2.2 6 _ rfl
  have x_g := HB_bx.out.1
  have w0 : V.cell? ⟨bg, 0, none⟩ = some (.int .i64 g1) := HB_bg.out.2.2 0 _ rfl
  have w1 : V.cell? ⟨bg, 1, none⟩ = some (.int .u32 g2) := HB_bg.out.2.2 1 _ rfl
  have w2 : V.cell? ⟨bg, 2, none⟩ = some (.int .u32 g3) := HB_bg.out.2.2 2 _ rfl
  have wg := HB_bg.out.1
  have HL_ := hid (fun w' (h : Ext V w') => (And.intro (Nat.lt_of_lt_of_le wg h.size) (And.intro (Nat.lt_of_lt_of_le x_g h.size) (And.intro (h.cell w0) (And.intro (h.cell w1) (And.intro (h.cell w2) (h.cell x_seq)))))))
  refine wp_region_facts [9, 10, 11, 12, 13, 14] [0, 1, 2, 3, 4, 5] rfl (fun w' => Ext V w') (fsAt [IsV ?_, IsV (.agg #[.int .i64 g1, .int .u32 g2, .int .u32 g3]), IsV ?_, IsV ?_, IsV (.agg #[.int .i64 0, .int .u32 d.seq, .int .u32 0]), IsV (.bool true)]) (by kernel_rfl) (by kernel_rfl) ((Ext.refl _).drew) (fun w w' h he => h.trans he) (aC (fun _ _ _ h _ => h) (aC (fun _ _ _ h _ => h) (aC (fun _ _ _ h _ => h) (aC (fun _ _ _ h _ => h) (aC (fun _ _ _ h _ => h) (aC (fun _ _ _ h _ => h) (AllOn.nil))))))) (aC ?_ (aC ?_ (aC ?_ (aC ?_ (aC ?_ (aC ?_ (AllOn.nil))))))) ?_
  rotate_left 3
  ·intro A w cx hO hD
   have e3 := evO hO 3 rfl
   clear hD hO
   refine hdV rfl ?_ rfl rfl ?_ ?_
   rotate_left 1
   ·simp [go_sem, e3, cx, HL_.out w cx]
    try with_reducible rfl
   ·exact IsV.mk (w := w)
  ·intro A w cx hO hD
   have e9 := evD (hD 0 (by kernel_rfl) 9 rfl)
   clear hD hO
   refine hdW rfl rfl ?_
   refine ld_pre_op _ _ rfl ((ev_tm A 9).trans e9) _ (HB_bg.out.of cx) (cs := wdE (g1, g2, g3)) pre_wd Tryz.underlying44 rfl Tryz.wInfo ?_
   exact ⟨_, rfl, Ext.refl _, rfl⟩
  ·intro A w cx hO hD
   have e2 := evO hO 2 rfl
   clear hD hO
   refine hdV rfl ?_ rfl rfl ?_ ?_
   rotate_left 1
   ·simp [go_sem, e2, cx, HL_.out w cx]
    try with_reducible rfl
   ·exact IsV.mk (w := w)
  ·intro A w cx hO hD
   have e11 := evD (hD 2 (by kernel_rfl) 11 rfl)
   clear hD hO
   refine hdV rfl ?_ rfl rfl ?_ ?_
   rotate_left 1
   ·simp [go_sem, e11, cx, HL_.out w cx]
    try with_reducible rfl
   ·exact IsV.mk (w := w)
  ·intro A w cx hO hD
   have e12 := evD (hD 3 (by kernel_rfl) 12 rfl)
   clear hD hO
   refine hdW rfl rfl ?_
   simp [go_sem, e12]
   refine (status_any 0 d.seq HSq.out.1 HSq.out.2 _).mono ?_
   rintro e w' ⟨rfl, hx_⟩
   exact ⟨_, rfl, hx_, rfl⟩
  ·intro A w cx hO hD
   have e10 := evD (hD 1 (by kernel_rfl) 10 rfl)
   have e13 := evD (hD 4 (by kernel_rfl) 13 rfl)
   clear hD hO
   refine hdW rfl rfl ?_
   simp [go_sem, Oper.wp, execOp, Oper.upon, e10, e13, hneq, hga, hq1]
   exact ⟨_, rfl, Ext.refl _, rfl⟩
  intro u wx hC hF
  obtain ⟨f0, f1, f2, f3, f4, f5, _⟩ := hF
  have g0 : u 0 = _ := f0
  have g1 : u 1 = _ := f1
  have g2 : u 2 = _ := f2
  have g3 : u 3 = _ := f3
  have g4 : u 4 = _ := f4
  have g5 : u 5 = _ := f5
  simp only [fPut, Nat.zero_add, Nat.reduceAdd, g0, g1, g2, g3, g4, g5, Act.put, List.setIfInBounds_toArray, List.set_cons_zero, List.set_cons_succ, List.length_cons, List.length_nil, List.drop_succ_cons, List.drop_zero]
  clear g0 g1 g2 g3 g4 g5 f0 f1 f2 f3 f4 f5
  have hxd := hC
  clear hC w0 w1 w2 wg x_seq x_g
  have HE_wx := hid (HE_V.out.trans hxd)
  have HB_bx2 := hid (HB_bx.out.of hxd)
  have HB_bg2 := hid (HB_bg.out.of hxd)
  have HB_br2 := hid (HB_br.out.of hxd)
  have HB_ba2 := hid (HB_ba.out.of hxd)
  clear HB_bx HB_bg HB_br HB_ba
  have HB_bx := HB_bx2
  have HB_bg := HB_bg2
  have HB_br := HB_br2
  have HB_ba := HB_ba2
  clear HB_bx2 HB_bg2 HB_br2 HB_ba2
  clear hxd
  go_wp2_with (first | (refine ld_blk rfl 106 _ rfl rfl _ HB_bx.out Tryz.underlying106 rfl Tryz.hInfo ?_))
  refine (hp_release HO.out d wx).mono ?_
  rintro e w1 ⟨rfl, he⟩
  have HE1 := hid (HE_wx.out.trans he)
  have HBr := hid (HB_br.out.of he)
  have HBa := hid (HB_ba.out.of he)
  clear he
  go_wp2_with (first | (refine st_blk rfl 106 _ _ rfl rfl rfl HBr.out rfl Tryz.hInfo (Hr.One.all (hR_one HO.out _)) ?_; intro W1 hb1 hg1) | (refine st_blk rfl 46 _ _ rfl rfl rfl (HBa.out.grl hg1 (by have h1 := HN_V.out; simp; omega)) rfl Tryz.aInfo (a8E_one' _) ?_; intro W2 hb2 hg2))
  exact bodyPost_ret (res3 Tryz.results168 rfl rfl rfl (hb1.grl hg2 (by have h1 := HN_V.out; simp; omega)) hb2 Tryz.underlying106 rfl Tryz.hInfo Tryz.underlying46 rfl Tryz.aInfo) rfl ⟨rfl, (HE1.out.grl hg1 (by have h1 := HN_V.out; simp; omega)).grl hg2 (by have h1 := HN_V.out; simp; omega)⟩
 ·rw [if_pos h1]
  have hq1 : wdB (g1, g2, g3) (0, d.seq, 0) = true := decide_eq_true h1
  clear h1
  go_enter Tryz.func168, Tryz.ntmps168
  go_upto_region 1 with fail
  generalize hV_ : World.alloc _ _ = V
  have HE_V := hid (show Ext w V by rw [← hV_]; exact exP)
  have HB_bx := hid (show Blk V (w.heap.size) (hL (hR X d)) by rw [← hV_]; exact bkP)
  have HB_bg := hid (show Blk V (w.heap.size + 1) (gtE ((g1, g2, g3), gk)) by rw [← hV_]; exact bkP)
  have HB_br := hid (show Blk V (w.heap.size + 1 + 1) zH by rw [← hV_]; exact bkP)
  have HB_ba := hid (show Blk V (w.heap.size + 1 + 1 + 1) [.int .i64 0, .int .i64 0, .int .i64 0, .int .u32 0, .int .u32 0, .int .i64 0, .int .u32 0, .int .u32 0] by rw [← hV_]; exact bkP)
  clear hV_
  obtain ⟨ba, hg_ba⟩ : ∃ g, g = w.heap.size + 1 + 1 + 1 := ⟨_, rfl⟩
  simp only [← hg_ba] at HB_ba ⊢
  obtain ⟨br, hg_br⟩ : ∃ g, g = w.heap.size + 1 + 1 := ⟨_, rfl⟩
  simp only [← hg_br] at HB_br ⊢
  obtain ⟨bg, hg_bg⟩ : ∃ g, g = w.heap.size + 1 := ⟨_, rfl⟩
  simp only [← hg_bg] at HB_bg ⊢
  obtain ⟨bx, hg_bx⟩ : ∃ g, g = w.heap.size := ⟨_, rfl⟩
  simp only [← hg_bx] at HB_bx ⊢
  have HN_V := hid (show bx = w.heap.size ∧ bg = w.heap.size + 1 ∧ br = w.heap.size + 1 + 1 ∧ ba = w.heap.size + 1 + 1 + 1 ∧ ba < V.heap.size from ⟨hg_bx, hg_bg, hg_br, hg_ba, HB_ba.out.1⟩)
  clear hg_bx hg_bg hg_br hg_ba
  have x_seq : V.cell? ⟨bx, 6, none⟩ = some (.int .i64 d.seq) := HB_bx.out.2.2 6 _ rfl
  have x_g := HB_bx.out.1
  have w0 : V.cell? ⟨bg, 0, none⟩ = some (.int .i64 g1) := HB_bg.out.2.2 0 _ rfl
  have w1 : V.cell? ⟨bg, 1, none⟩ = some (.int .u32 g2) := HB_bg.out.2.2 1 _ rfl
  have w2 : V.cell? ⟨bg, 2, none⟩ = some (.int .u32 g3) := HB_bg.out.2.2 2 _ rfl
  have wg := HB_bg.out.1
  have HL_ := hid (fun w' (h : Ext V w') => (And.intro (Nat.lt_of_lt_of_le wg h.size) (And.intro (Nat.lt_of_lt_of_le x_g h.size) (And.intro (h.cell w0) (And.intro (h.cell w1) (And.intro (h.cell w2) (h.cell x_seq)))))))
  refine wp_region_facts [9, 10, 11, 12, 13, 14] [0, 1, 2, 3, 4, 5] rfl (fun w' => Ext V w') (fsAt [IsV ?_, IsV (.agg #[.int .i64 g1, .int .u32 g2, .int .u32 g3]), IsV ?_, IsV ?_, IsV (.agg #[.int .i64 0, .int .u32 d.seq, .int .u32 0]), IsV (.bool false)]) (by kernel_rfl) (by kernel_rfl) ((Ext.refl _).drew) (fun w w' h he => h.trans he) (aC (fun _ _ _ h _ => h) (aC (fun _ _ _ h _ => h) (aC (fun _ _ _ h _ => h) (aC (fun _ _ _ h _ => h) (aC (fun _ _ _ h _ => h) (aC (fun _ _ _ h _ => h) (AllOn.nil))))))) (aC ?_ (aC ?_ (aC ?_ (aC ?_ (aC ?_ (aC ?_ (AllOn.nil))))))) ?_
  rotate_left 3
  ·intro A w cx hO hD
   have e3 := evO hO 3 rfl
   clear hD hO
   refine hdV rfl ?_ rfl rfl ?_ ?_
   rotate_left 1
   ·simp [go_sem, e3, cx, HL_.out w cx]
    try with_reducible rfl
   ·exact IsV.mk (w := w)
  ·intro A w cx hO hD
   have e9 := evD (hD 0 (by kernel_rfl) 9 rfl)
   clear hD hO
   refine hdW rfl rfl ?_
   refine ld_pre_op _ _ rfl ((ev_tm A 9).trans e9) _ (HB_bg.out.of cx) (cs := wdE (g1, g2, g3)) pre_wd Tryz.underlying44 rfl Tryz.wInfo ?_
   exact ⟨_, rfl, Ext.refl _, rfl⟩
  ·intro A w cx hO hD
   have e2 := evO hO 2 rfl
   clear hD hO
   refine hdV rfl ?_ rfl rfl ?_ ?_
   rotate_left 1
   ·simp [go_sem, e2, cx, HL_.out w cx]
    try with_reducible rfl
   ·exact IsV.mk (w := w)
  ·intro A w cx hO hD
   have e11 := evD (hD 2 (by kernel_rfl) 11 rfl)
   clear hD hO
   refine hdV rfl ?_ rfl rfl ?_ ?_
   rotate_left 1
   ·simp [go_sem, e11, cx, HL_.out w cx]
    try with_reducible rfl
   ·exact IsV.mk (w := w)
  ·intro A w cx hO hD
   have e12 := evD (hD 3 (by kernel_rfl) 12 rfl)
   clear hD hO
   refine hdW rfl rfl ?_
   simp [go_sem, e12]
   refine (status_any 0 d.seq HSq.out.1 HSq.out.2 _).mono ?_
   rintro e w' ⟨rfl, hx_⟩
   exact ⟨_, rfl, hx_, rfl⟩
  ·intro A w cx hO hD
   have e10 := evD (hD 1 (by kernel_rfl) 10 rfl)
   have e13 := evD (hD 4 (by kernel_rfl) 13 rfl)
   clear hD hO
   refine hdW rfl rfl ?_
   simp [go_sem, Oper.wp, execOp, Oper.upon, e10, e13, hneq, hga, hq1]
   exact ⟨_, rfl, Ext.refl _, rfl⟩
  intro u wx hC hF
  obtain ⟨f0, f1, f2, f3, f4, f5, _⟩ := hF
  have g0 : u 0 = _ := f0
  have g1 : u 1 = _ := f1
  have g2 : u 2 = _ := f2
  have g3 : u 3 = _ := f3
  have g4 : u 4 = _ := f4
  have g5 : u 5 = _ := f5
  simp only [fPut, Nat.zero_add, Nat.reduceAdd, g0, g1, g2, g3, g4, g5, Act.put, List.setIfInBounds_toArray, List.set_cons_zero, List.set_cons_succ, List.length_cons, List.length_nil, List.drop_succ_cons, List.drop_zero]
  clear g0 g1 g2 g3 g4 g5 f0 f1 f2 f3 f4 f5
  have hxd := hC
  clear hC w0 w1 w2 wg x_seq x_g
  have HE_wx := hid (HE_V.out.trans hxd)
  have HB_bx2 := hid (HB_bx.out.of hxd)
  have HB_bg2 := hid (HB_bg.out.of hxd)
  have HB_br2 := hid (HB_br.out.of hxd)
  have HB_ba2 := hid (HB_ba.out.of hxd)
  clear HB_bx HB_bg HB_br HB_ba
  have HB_bx := HB_bx2
  have HB_bg := HB_bg2
  have HB_br := HB_br2
  have HB_ba := HB_ba2
  clear HB_bx2 HB_bg2 HB_br2 HB_ba2
  clear hxd
  have x_t : wx.cell? ⟨bx, 0, none⟩ = some (.int .i64 X.t) := HB_bx.out.2.2 0 _ rfl
  have x_c : wx.cell? ⟨bx, 1, none⟩ = some (.int .i64 X.c) := HB_bx.out.2.2 1 _ rfl
  have x_b : wx.cell? ⟨bx, 2, none⟩ = some (.int .i64 X.b) := HB_bx.out.2.2 2 _ rfl
  have x_dur : wx.cell? ⟨bx, 8, none⟩ = some (.bool X.dur) := HB_bx.out.2.2 8 _ rfl
  have x_m3 : wx.cell? ⟨bx, 16, none⟩ = some (.int .u32 d.met.2.2) := HB_bx.out.2.2 16 _ rfl
  have x_g := HB_bx.out.1
  go_wp2_with fail
  refine (hp_New X.t X.c X.b d.met.2.2 X.dur HM.out.1 HM.out.2 wx (HS.out.of HE_wx.out)).mono ?_
  rintro e w4 ⟨he_, hx_⟩
  rw [if_neg (fun h => h HK.out), if_neg (by intro h; rcases h with h | h; exact HF.out.1 h; have := HF.out.2; omega)] at he_
  subst he_
  clear x_t x_c x_b x_dur x_m3 x_g
  have HE_w4 := hid (HE_wx.out.trans hx_)
  have HB_bx2 := hid (HB_bx.out.of hx_)
  have HB_bg2 := hid (HB_bg.out.of hx_)
  have HB_br2 := hid (HB_br.out.of hx_)
  have HB_ba2 := hid (HB_ba.out.of hx_)
  clear HB_bx HB_bg HB_br HB_ba
  have HB_bx := HB_bx2
  have HB_bg := HB_bg2
  have HB_br := HB_br2
  have HB_ba := HB_ba2
  clear HB_bx2 HB_bg2 HB_br2 HB_ba2
  clear hx_
  have x_inn : w4.cell? ⟨bx, 17, none⟩ = some X.inn := HB_bx.out.2.2 17 _ rfl
  have x_g := HB_bx.out.1
  have x_f := HB_bx.out.2.1
  go_upto_region 5 with fail
  generalize hZ_ : World.setCell _ _ _ = Q
  have HG_Q := hid (show GrL [bx] w4 Q by rw [← hZ_]; exact glP)
  have HB_bx2 := hid (show Blk Q bx (hL (hR { X with inn := .iface hpT (.agg (hL (hR (⟨X.t, X.c, X.b, X.dur, .slice none 0 0, .slice none 0 0, .nilIface⟩ : HX) (hpNew X.t X.c X.b d.met.2.2))).toArray) } d)) by rw [← hZ_]; exact HB_bx.out.set 17 (of_decide_eq_true rfl) _)
  clear hZ_ HB_bx x_inn x_g x_f
  have HB_bx := HB_bx2
  clear HB_bx2
  have HE_Q := hid (HE_w4.out.grl HG_Q.out (by have h1 := HN_V.out; simp; omega))
  have HB_br2 := hid (HB_br.out.grl HG_Q.out (by have h1 := HN_V.out; simp; omega))
  clear HB_br
  have HB_br := HB_br2
  clear HB_br2
  have HB_ba2 := hid (HB_ba.out.grl HG_Q.out (by have h1 := HN_V.out; simp; omega))
  clear HB_ba
  have HB_ba := HB_ba2
  clear HB_ba2
  have HEU := hid (show Sl Q 6 enE X.es d.es from HEs.out.of enE_len HE_Q.out)
  go_wp2_with (first | (refine ld_blk rfl 106 _ rfl rfl _ HB_bx.out Tryz.underlying106 rfl Tryz.hInfo ?_))
  refine (hp_nested (X := { X with inn := .iface hpT (.agg (hL (hR (⟨X.t, X.c, X.b, X.dur, .slice none 0 0, .slice none 0 0, .nilIface⟩ : HX) (hpNew X.t X.c X.b d.met.2.2))).toArray) }) ⟨HO.out.ws, HO.out.es, rfl⟩ d HDn.out HL.out (hR (⟨X.t, X.c, X.b, X.dur, .slice none 0 0, .slice none 0 0, .nilIface⟩ : HX) (hpNew X.t X.c X.b d.met.2.2)) rfl ((0, 0, 0), false) Q HEU.out (fun _ => False) (fun _ h => h.elim) ⟨fun h _ => h, fun h _ => h⟩ (fun W hW => hp_first_step X.t X.c X.b d.met.2.2 X.dur ((0, 0, 0), false) W (fun _ => False) (fun _ h => h.elim))).mono ?_
  rintro e w5 ⟨h', a, dn, hone, he, ⟨rfl, rfl, rfl⟩, hcs⟩
  have he2 : e = .returned (.tuple #[.agg (hL (hR { X with inn := .iface hpT (.agg (hL (hR (⟨X.t, X.c, X.b, X.dur, .slice none 0 0, .slice none 0 0, .nilIface⟩ : HX) (hpLook (hpNew X.t X.c X.b d.met.2.2) 1).1)).toArray) } { d with nx := 7 })).toArray, .agg (a8E (lookA (hpNew X.t X.c X.b d.met.2.2).at_)).toArray, .bool false]) := by
   rcases hcs with ⟨_, h⟩ | ⟨h, _⟩ | ⟨h, _⟩
   ·exact h
   ·cases h
   ·cases h
  subst he2
  clear hcs hone
  have HE1 := hid (HE_Q.out.trans he)
  have HBr := hid (HB_br.out.of he)
  have HBa := hid (HB_ba.out.of he)
  clear he
  go_wp2_with (first | (refine st_blk rfl 106 _ _ rfl rfl rfl HBr.out rfl Tryz.hInfo (Hr.One.all (hR_one (X := { X with inn := .iface hpT (.agg (hL (hR (⟨X.t, X.c, X.b, X.dur, .slice none 0 0, .slice none 0 0, .nilIface⟩ : HX) (hpLook (hpNew X.t X.c X.b d.met.2.2) 1).1)).toArray) }) ⟨HO.out.ws, HO.out.es, rfl⟩ _)) ?_; intro W1 hb1 hg1) | (refine st_blk rfl 46 _ _ rfl rfl rfl (HBa.out.grl hg1 (by have h1 := HN_V.out; simp; omega)) rfl Tryz.aInfo (a8E_one' _) ?_; intro W2 hb2 hg2))
  exact bodyPost_ret (res3 Tryz.results168 rfl rfl rfl (hb1.grl hg2 (by have h1 := HN_V.out; simp; omega)) hb2 Tryz.underlying106 rfl Tryz.hInfo Tryz.underlying46 rfl Tryz.aInfo) rfl ⟨rfl, (HE1.out.grl hg1 (by have h1 := HN_V.out; simp; omega)).grl hg2 (by have h1 := HN_V.out; simp; omega)⟩
open Go.RowKit
structure HdB (d : Hd) : Prop where
 n : HdN d
 met : WdOk d.met
 wk : ∀ a ∈ d.ws, WdOk a
structure HdOk (t c b : Int) (d : Hd) : Prop where
 hb : HdB d
 ph : d.nx ≤ 17
 i0 : d.nx ≤ 4 → d.i = 0
 w2 : d.nx ≤ 2 → d.ws = []
 w3 : d.nx = 3 → (d.ws.length : Int) < 3 * d.many
 w4 : d.nx = 4 → (d.ws.length : Int) = 3 * d.many ∧ 1 ≤ d.many
 il : d.nx = 5 ∨ d.nx = 6 ∨ d.nx = 7 ∨ d.nx = 8 ∨ d.nx = 15 ∨ d.nx = 16 → d.i < d.es.length
 fo : d.nx = 6 → (whoN d.met.2.2).1 ≠ 0 ∧ 0 ≤ (placeN t c b (whoN d.met.2.2).1).1
 b9 : d.nx = 9 → d.bh = 10 ∨ d.bh = 17
 v1 : (d.nx = 9 ∧ d.bh = 10) ∨ d.nx = 10 → d.vd = 1
def HdTo (t c b : Int) (d : Hd) : Prop := d.ended = true ∨ (HdOk t c b d ∧ d.nx ≠ 7)
theorem HdN.to {d d' : Hd} (h : HdN d) (h1 : d'.seq = d.seq) (h2 : d'.ref = d.ref) (h3 : d'.at_ = d.at_) (h4 : d'.who = d.who) (h5 : d'.most = d.most) (h6 : d'.i ≤ d'.es.length) (h7 : d'.es.length ≤ 100) (h8 : d'.ws.length ≤ 100) (h9 : 0 ≤ d'.many ∧ d'.many ≤ 32) : HdN d' :=
 ⟨by rw [h1]; exact h.seq, by rw [h2]; exact h.ref, by rw [h3]; exact h.at_, by rw [h4]; exact h.who, by rw [h5]; exact h.most, h6, h7, h8, h9⟩
theorem HdB.nx {d : Hd} (h : HdB d) (p : Nat) : HdB { d with nx := p } := ⟨h.n.to rfl rfl rfl rfl rfl h.n.i h.n.es h.n.ws h.n.many, h.met, h.wk⟩
theorem HdB.ix {d : Hd} (h : HdB d) (i : Nat) (hi : i ≤ d.es.length) : HdB { d with i := i } := ⟨h.n.to rfl rfl rfl rfl rfl hi h.n.es h.n.ws h.n.many, h.met, h.wk⟩
theorem HdB.ibh {d : Hd} (h : HdB d) (i : Nat) (hi : i ≤ d.es.length) (p : Nat) : HdB { d with i := i, bh := p } := ⟨h.n.to rfl rfl rfl rfl rfl hi h.n.es h.n.ws h.n.many, h.met, h.wk⟩
theorem HdB.vdx {d : Hd} (h : HdB d) (v : Int) : HdB { d with vd := v } := ⟨h.n.to rfl rfl rfl rfl rfl h.n.i h.n.es h.n.ws h.n.many, h.met, h.wk⟩
theorem HdB.vdi {d : Hd} (h : HdB d) (v : Int) : HdB { d with vd := v, i := 0 } := ⟨h.n.to rfl rfl rfl rfl rfl (Nat.zero_le _) h.n.es h.n.ws h.n.many, h.met, h.wk⟩
theorem HdB.metx {d : Hd} (h : HdB d) (g : Wd) (hg : WdOk g) : HdB { d with met := g } := ⟨h.n.to rfl rfl rfl rfl rfl h.n.i h.n.es h.n.ws h.n.many, hg, h.wk⟩
theorem HdB.manyx {d : Hd} (h : HdB d) (m : Int) (hm : 0 ≤ m ∧ m ≤ 32) : HdB { d with many := m } := ⟨h.n.to rfl rfl rfl rfl rfl h.n.i h.n.es h.n.ws hm, h.met, h.wk⟩
theorem HdB.wsx {d : Hd} (h : HdB d) (g : Wd) (hg : WdOk g) (hl : d.ws.length + 1 ≤ 100) : HdB { d with ws := d.ws ++ [g] } :=
 ⟨h.n.to rfl rfl rfl rfl rfl h.n.i h.n.es (by simp; omega) h.n.many, h.met, fun a ha => by
  rcases List.mem_append.1 ha with ha | ha
  ·exact h.wk a ha
  ·rw [List.mem_singleton.1 ha]; exact hg⟩
theorem HdB.esx {d : Hd} (h : HdB d) (l : List En) (hi : d.i = 0) (hl : l.length ≤ 100) : HdB { d with es := l } := ⟨h.n.to rfl rfl rfl rfl rfl (by show d.i ≤ _; rw [hi]; exact Nat.zero_le _) hl h.n.ws h.n.many, h.met, h.wk⟩
section
variable {t c b : Int} {d : Hd}
theorem to_end (v : Int) : HdTo t c b (hpEnd d v).1 := .inl rfl
theorem to_ask (h : HdB d) (a : A8) {p : Nat} (hp : p = 11 ∨ p = 12 ∨ p = 13 ∨ p = 14 ∨ p = 17) : HdTo t c b (hpAsk d a p).1 := by
 refine .inr ⟨⟨h.nx p, ?_, ?_, ?_, ?_, ?_, ?_, ?_, ?_, ?_⟩, ?_⟩
 all_goals simp only [hpAsk]
 all_goals first | (intro hx; exfalso; omega) | omega
theorem to_ask0 (h : HdB d) (a : A8) {p : Nat} (hp : p = 1 ∨ p = 2) (hi : d.i = 0) (hw : d.ws = []) : HdTo t c b (hpAsk d a p).1 := by
 refine .inr ⟨⟨h.nx p, ?_, ?_, ?_, ?_, ?_, ?_, ?_, ?_, ?_⟩, ?_⟩
 all_goals simp only [hpAsk]
 all_goals first | (intro _; exact hi) | (intro _; exact hw) | (intro hx; exfalso; omega) | omega
theorem to_askI (h : HdB d) (a : A8) {p : Nat} (hp : p = 5 ∨ p = 8 ∨ p = 15 ∨ p = 16) (hi : d.i < d.es.length) : HdTo t c b (hpAsk d a p).1 := by
 refine .inr ⟨⟨h.nx p, ?_, ?_, ?_, ?_, ?_, ?_, ?_, ?_, ?_⟩, ?_⟩
 all_goals simp only [hpAsk]
 all_goals first | (intro _; exact hi) | (intro hx; exfalso; omega) | omega
theorem to_settle (h : HdB d) : HdTo t c b (hpSettle d).1 := to_ask h _ (.inl rfl)
theorem to_flushed (h : HdB d) (hb : d.bh = 10 ∨ d.bh = 17) (hv : d.bh = 10 → d.vd = 1) : HdTo t c b (hpFlushed d).1 := by
 unfold hpFlushed
 by_cases hi : d.i = d.es.length
 ·rw [if_pos hi]
  refine .inr ⟨⟨h.nx d.bh, ?_, ?_, ?_, ?_, ?_, ?_, ?_, ?_, ?_⟩, ?_⟩
  all_goals simp only [hpAsk]
  all_goals first | (intro hx; exact hv (by omega)) | (intro hx; exfalso; omega) | omega
 ·rw [if_neg hi]
  have hl : d.i + 1 ≤ d.es.length := by have := h.n.i; omega
  refine .inr ⟨⟨(h.ix _ hl).nx 9, ?_, ?_, ?_, ?_, ?_, ?_, ?_, ?_, ?_⟩, ?_⟩
  all_goals simp only [hpAsk]
  all_goals first | (intro _; exact hb) | (intro hx; exact hv (by omega)) | (intro hx; exfalso; omega) | omega
theorem to_flush (h : HdB d) {p : Nat} (hp : p = 10 ∨ p = 17) (hv : p = 10 → d.vd = 1) : HdTo t c b (hpFlush d p).1 := to_flushed (h.ibh 0 (Nat.zero_le _) p) hp hv
theorem to_decide (h : HdB d) (dur : Bool) (v : Int) : HdTo t c b (hpDecide dur d v).1 := by
 unfold hpDecide
 split
 ·rename_i hc; exact to_flush (h.vdx v) (.inl rfl) (fun _ => hc.1)
 ·exact to_settle (h.vdx v)
theorem to_install (h : HdB d) (dur : Bool) : HdTo t c b (hpInstall dur d).1 := by
 unfold hpInstall
 by_cases hi : d.i = d.es.length
 ·rw [if_pos hi]; exact to_decide h dur 1
 ·rw [if_neg hi]; exact to_askI h _ (.inl rfl) (by have := h.n.i; omega)
theorem to_release (h : HdB d) (dur : Bool) : HdTo t c b (hpRelease dur d).1 := by
 unfold hpRelease
 split
 ·exact to_ask h _ (by omega)
 ·exact to_ask h _ (by omega)
theorem to_free (h : HdB d) (dur : Bool) : HdTo t c b (hpFree dur d).1 := by
 unfold hpFree
 split
 ·rename_i hi; exact to_askI h _ (by omega) hi
 ·split
  ·exact to_flush h (.inr rfl) (fun h => by omega)
  ·exact to_end _
theorem to_freed (h : HdB d) (dur : Bool) (hi : d.i < d.es.length) : HdTo t c b (hpFreed dur d).1 := to_free (h.ix _ hi) dur
theorem to_known (h : HdB d) (dur : Bool) (g : Wd) : HdTo t c b (hpKnown dur d g).1 := to_free (h.vdi _) dur
theorem to_found (h : HdB d) (dur : Bool) (g : Wd) (hi : d.i < d.es.length) : HdTo t c b (hpFound dur d g).1 := by
 unfold hpFound
 split
 ·exact to_askI h _ (by omega) hi
 ·exact to_freed h dur hi
theorem to_first (h : HdB d) (g : Wd) (hi : d.i = 0) (hw : d.ws = []) : HdTo t c b (hpFirst d g).1 := by
 unfold hpFirst
 split
 ·exact to_end _
 ·exact to_ask0 h _ (by omega) hi hw
theorem to_load (h : HdB d) (hi : d.i = 0) (hw : (d.ws.length : Int) ≤ 3 * d.many) (hm : 1 ≤ d.many) : HdTo t c b (hpLoad t c b d).1 := by
 unfold hpLoad
 by_cases he : (d.ws.length : Int) = 3 * d.many
 ·rw [if_pos he]
  refine .inr ⟨⟨h.nx 4, ?_, ?_, ?_, ?_, ?_, ?_, ?_, ?_, ?_⟩, ?_⟩
  all_goals simp only [hpLook, hpAsk]
  all_goals first | (intro _; exact hi) | (intro _; exact ⟨he, hm⟩) | (intro hx; exfalso; omega) | omega
 ·rw [if_neg he]
  refine .inr ⟨⟨h.nx 3, ?_, ?_, ?_, ?_, ?_, ?_, ?_, ?_, ?_⟩, ?_⟩
  all_goals simp only [hpAsk]
  all_goals first | (intro _; exact hi) | (intro _; omega) | (intro hx; exfalso; omega) | omega
theorem to_counted (h : HdB d) (g : Wd) (hi : d.i = 0) (hw : d.ws = []) : HdTo t c b (hpCounted t c b d g).1 := by
 unfold hpCounted
 split
 ·exact to_end _
 ·rename_i hc
  have h1 : 1 ≤ g.1 ∧ g.1 ≤ d.most := by
   constructor
   ·by_cases h1 : g.1 < 1
    ·exact absurd (.inl h1) hc
    ·omega
   ·by_cases h1 : d.most < g.1
    ·exact absurd (.inr (.inl h1)) hc
    ·omega
  have hm := h.n.most
  exact to_load (h.manyx g.1 (by omega)) hi (by show ((d.ws.length : Nat) : Int) ≤ 3 * g.1; rw [hw]; simp; omega) h1.1
theorem to_checked (h : HdB d) (dur : Bool) (g : Wd) (hi : d.i = 0) : HdTo t c b (hpChecked t c b dur d g).1 := by
 unfold hpChecked
 split
 ·exact to_end _
 ·cases hu : hpUnpacked t c b d.ws with
  | none => exact to_end _
  | some l =>
   have hl : l.length ≤ 100 := by have := hpUnpacked_len hu; have := h.n.ws; omega
   dsimp only
   split
   ·exact to_release (h.esx l hi hl) dur
   ·exact to_install (h.esx l hi hl) dur
theorem to_installed (h : HdB d) (dur : Bool) (g : Gt) (hg : WdOk g.1) (hi : d.i < d.es.length) : HdTo t c b (hpInstalled t c b dur d g).1 := by
 unfold hpInstalled
 split
 ·exact to_install (h.ix _ hi) dur
 ·split
  ·rename_i hf
   have hf2 : (whoN g.1.2.2).1 ≠ 0 ∧ 0 ≤ (placeN t c b (whoN g.1.2.2).1).1 := by
    unfold hpForeign at hf
    simp at hf
    exact hf.2
   refine .inr ⟨⟨(h.metx g.1 hg).nx 6, ?_, ?_, ?_, ?_, ?_, ?_, ?_, ?_, ?_⟩, ?_⟩
   all_goals simp only [hpLook, hpAsk]
   all_goals first | (intro _; exact hi) | (intro _; exact hf2) | (intro hx; exfalso; omega) | omega
  ·exact to_decide h dur 2
end
open Go.RowKit Go.Maps
section
variable {w w' : World} {P : Nat → Prop}
theorem AgP.cell (h : AgP P w w') {n i : Nat} (hn : P n) (hl : n < w.heap.size) : w'.cell? ⟨n, i, none⟩ = w.cell? ⟨n, i, none⟩ := World.cell?_of_block (w := w) (h.2 n hn hl)
theorem Sp.agp {α : Type} {size : Nat} {enc : α → List Value} {v : Value} {l : List α} (h : Sp w P size enc v l) (k : AgP P w w') : Sp w' P size enc v l := by
 refine ⟨?_, h.2⟩
 obtain ⟨⟨a, c, rfl, hm, hl⟩, hp⟩ := h
 refine ⟨a, c, rfl, hm, fun hn => ?_⟩
 obtain ⟨b, o, rfl, hbl, hc⟩ := hl hn
 refine ⟨b, o, rfl, Nat.lt_of_lt_of_le hbl k.1, fun i x hx j hj => ?_⟩
 rw [k.cell (hp hn _ _ _ rfl) hbl]
 exact hc i x hx j hj
theorem VwR.agp {v : Value} {f : Int → Nat} (h : VwR w P v f) (k : AgP P w w') : VwR w' P v f := Or.imp id (fun ⟨b, h1, h2, h3⟩ => ⟨b, h1, by
 have hb : b < w.heap.size := by obtain ⟨D, n, q1, _⟩ := h2; exact q1.lt
 obtain ⟨D, n, ⟨es, clock, q1, q2⟩, q3⟩ := h2
 exact ⟨D, n, ⟨es, clock, by rw [k.2 b h3 hb]; exact q1, q2⟩, q3⟩, h3⟩) h
theorem HsR.agp {v : Value} {l : List Mg} (h : HsR w P v l) (k : AgP P w w') : HsR w' P v l := by
 obtain ⟨raw, h1, h2, h3⟩ := h
 exact ⟨raw, h1.agp k, h2, fun i r m a b => ⟨(h3 i r m a b).1, (h3 i r m a b).2.1, (h3 i r m a b).2.2.agp k⟩⟩
theorem MeR.agp {pv vv : Value} {m : Me} (h : MeR w P pv vv m) (k : AgP P w w') : MeR w' P pv vv m := by
 obtain ⟨⟨hs, h1, h2, h3⟩, qs, q1, q2, q3⟩ := h
 exact ⟨⟨hs, h1.agp k, h2, fun i a b c d => (h3 i a b c d).agp k⟩, qs, q1.agp k, q2, fun i a b c d => (q3 i a b c d).agp k⟩
theorem LnR.agp {fv lv : Value} {m : Ln} (h : LnR w P fv lv m) (k : AgP P w w') : LnR w' P fv lv m := by
 obtain ⟨h1, rs, q1, q2, q3⟩ := h
 exact ⟨h1.agp k, rs, q1.agp k, q2, fun i a b c d => ⟨(q3 i a b c d).1, (q3 i a b c d).2.agp k⟩⟩
theorem WV.agp {K : CodeK} {q : Option Nat} {cr : Int} {v : Value} {m : Mc} {ts : List (Tk K.C)} {bs : List Bool} (h : WV K w P q cr v m ts bs) (k : AgP P w w') : WV K w' P q cr v m ts bs := by
 obtain ⟨pa, va, fa, la, sa, ta, ba, pn, pc, vn, vc, fn, fc, ln, lc, sn, sc, tn, tc, bn, bc, rfl, ⟨h1, h2, h3⟩, ⟨raw, q1, q2, q3⟩, h5⟩ := h
 exact ⟨pa, va, fa, la, sa, ta, ba, pn, pc, vn, vc, fn, fc, ln, lc, sn, sc, tn, tc, bn, bc, rfl, ⟨h1.agp k, h2.agp k, h3.agp k⟩, ⟨raw, q1.agp k, q2, fun i a b c d => ⟨(q3 i a b c d).1, K.st (q3 i a b c d).2.1 k, (q3 i a b c d).2.2.agp k⟩⟩, h5.agp k⟩
theorem WV.gro {K : CodeK} {q : Option Nat} {cr : Int} {v : Value} {m : Mc} {ts : List (Tk K.C)} {bs : List Bool} (h : WV K w P q cr v m ts bs) {mb : Nat} (k : w.grownBy w' (some mb)) (hm : ¬ P mb) : WV K w' P q cr v m ts bs :=
 h.agp ⟨k.size, fun b hb hl => k.block b hl (fun e => hm (by simp at e; rw [← e]; exact hb))⟩
end
end Go.Proofs.YtiacdohaiidehaaGreatDoor
