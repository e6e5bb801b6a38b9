/- Walks of package help: loaded. Walks of the reference of descriptors: Entry, Unpack. Walks of small functions of law 19: great, the reference's Place, May. Entries compared; the walk of the reference's Same. Plain: what Read of package desc answers; the walk of its ways that end early. Plain: a descriptor's room lies within the layout. The walk of package desc's Read, from the descriptor's head on. -/
import Derived.Test.YtiacdohaiidehaaGreatDoorPk38
import Derived.Deep.DeepCutAuto
import Derived.Laws.Cover3
namespace Go.Proofs.YtiacdohaiidehaaGreatDoor
set_option linter.unusedSimpArgs false
set_option linter.unusedVariables false
open Go.RowKit
theorem Tryz.infoWdh : (Tryz.prog.info? 44).map (fun i => (i.zero, i.size, i.bytes)) = some (some (.agg #[.int .i64 0, .int .u32 0, .int .u32 0]), 3, 16) := by kernel_rfl
theorem wd_clip_op {o : Oper} {a : Act} {K : Act → World → Prop} {Q : Exit → Act → World → Prop} {w : World} {l : List Wd}
 (s x : Operand) (ho : o.op = .call { callee := .builtin .append, args := #[s, x], argTypes := #[82, 82] })
 {sa : Option Addr} {n : Nat} (hs : a.eval s = .slice sa n n) (hsl : Sl w 3 wdE (.slice sa n n) l)
 (ad : Addr) (m c : Nat) (hx : a.eval x = .slice (some ad) m c) (news : List Wd) (hm : news.length = m) (hm0 : 0 < m)
 (hnews : ∀ (j : Nat) (u : Value), (news.flatMap wdE)[j]? = some u → w.cell? (ad.add j) = some u) (hlen : n + m ≤ 1000000)
 (h : ∀ v' r, Own (ext w r) w.heap.size 44 3 wdE v' (l ++ news) → K (a.put o.dst v') (ext w r)) : Oper.wp Tryz.prog o a w K Q := by
 obtain ⟨i0, hi, hz0, hz1, hz2⟩ := info_parts Tryz.infoWdh
 exact app_clip_op Tryz.underlying82 hi hz0 hz1 hz2 rfl (by decide) wdE_len s x ho hs hsl ad m c hx news hm hm0 hnews (by unfold maxLen; omega) (by omega) h
theorem Own.newb {α : Type} {enc : α → List Value} {base : Nat} {e : TypeId} {size : Nat} {v : Value} {l : List α} {w : World} (h : Own w base e size enc v l) : ∀ a n c, v = .slice (some a) n c → base ≤ a.block := by
 obtain ⟨_, ⟨rfl, _⟩ | ⟨g, cap, cur, rfl, hb, _⟩⟩ := h
 ·intro a n c h; cases h
 ·intro a n c h; cases h; exact hb
theorem Sl.grl_own {α : Type} {enc : α → List Value} {size : Nat} (henc : ∀ x, (enc x).length = size) {w w' : World} {v : Value} {l : List α} {L : List Nat} (h : Sl w size enc v l) (k : GrL L w w') (hn : ∀ a n c, v = .slice (some a) n c → a.block ∉ L) : Sl w' size enc v l := by
 obtain ⟨a, c, rfl, hm, hl⟩ := h
 refine ⟨a, c, rfl, hm, fun hne => ?_⟩
 obtain ⟨b, o, rfl, hb, hc⟩ := hl hne
 refine ⟨b, o, rfl, Nat.lt_of_lt_of_le hb k.size, fun i x hx j hj => ?_⟩
 have e := hc i x hx j hj
 have hlt : (enc x)[j]? = some ((enc x)[j]'(by rw [henc]; exact hj)) := List.getElem?_eq_getElem _
 rw [hlt] at e ⊢
 exact k.cell (hn _ _ _ rfl) e
theorem Own.sl_grl {α : Type} {enc : α → List Value} {base : Nat} {e : TypeId} {size : Nat} {v : Value} {l : List α} {w w' : World} {b : Nat} (henc : ∀ x, (enc x).length = size) (h : Own w base e size enc v l) (k : GrL [b] w w') (hb : b < base) : Sl w' size enc v l :=
 Sl.grl_own henc (Sl.of_own henc h) k (fun a n c hv => by have := h.newb a n c hv; simp; omega)
set_option maxRecDepth 100000 in
set_option maxHeartbeats 1000000 in
theorem hp_loaded {X : HX} (ho : X.One) (d : Hd) (g : Gt) (hd : HdN { d with ws := d.ws ++ [g.1] }) (w : World) (hw : Sl w 3 wdE X.ws d.ws) (hs : Szs w) :
 Calls Tryz.prog 119 #[.agg (hL (hR X d)).toArray, .agg (gtE g).toArray] w fun e w' => ∃ v', e = .returned (.tuple #[.agg (hL (hR { X with ws := v' } (hpLoaded X.t X.c X.b d g.1).1)).toArray, .agg (a8E (hpLoaded X.t X.c X.b d g.1).2.1).toArray, .bool (hpLoaded X.t X.c X.b d g.1).2.2]) ∧ Ext w w' ∧ Sl w' 3 wdE v' (d.ws ++ [g.1]) ∧ ∀ a n c, v' = .slice (some a) n c → w.heap.size ≤ a.block := by
 have HO := hid ho
 have HS := hid hs
 have HDn := hid hd
 obtain ⟨wa, wc, n, hn, hv⟩ := ws_len hw
 have HVW := hid hv
 have HNn := hid hn
 have hn100 : n ≤ 100 := by have h := hd.ws; simp at h; omega
 have hw2 : Sl w 3 wdE (.slice wa n wc) d.ws := by rw [← hv]; exact hw
 have hna : n ≤ wc := by have := hw2.capT; omega
 have HA := hid (show Sl w 3 wdE (.slice wa n n) d.ws by rw [hn] at hw2 ⊢; exact hw2.clipT)
 have HN1 := hid hn100
 clear ho hs hd hw hn hv hw2 hn100
 obtain ⟨⟨g1, g2, g3⟩, gk⟩ := g
 go_enter Tryz.func119, Tryz.ntmps119
 go_upto_region 1 with fail
 generalize hV_ : World.alloc _ _ = V
 have HE_V := hid (show Ext w V by rw [← hV_]; exact exP)
 have HB_bx := hid (show Blk V (w.heap.size) (hL (hR X d)) by rw [← hV_]; exact bkP)
 have HB_bg := hid (show Blk V (w.heap.size + 1) (gtE ((g1, g2, g3), gk)) by rw [← hV_]; exact bkP)
 have HB_br := hid (show Blk V (w.heap.size + 1 + 1) zH by rw [← hV_]; exact bkP)
 have HB_ba := hid (show Blk V (w.heap.size + 1 + 1 + 1) [.int .i64 0, .int .i64 0, .int .i64 0, .int .u32 0, .int .u32 0, .int .i64 0, .int .u32 0, .int .u32 0] by rw [← hV_]; exact bkP)
 clear hV_
 obtain ⟨ba, hg_ba⟩ : ∃ g, g = w.heap.size + 1 + 1 + 1 := ⟨_, rfl⟩
 simp only [← hg_ba] at HB_ba ⊢
 obtain ⟨br, hg_br⟩ : ∃ g, g = w.heap.size + 1 + 1 := ⟨_, rfl⟩
 simp only [← hg_br] at HB_br ⊢
 obtain ⟨bg, hg_bg⟩ : ∃ g, g = w.heap.size + 1 := ⟨_, rfl⟩
 simp only [← hg_bg] at HB_bg ⊢
 obtain ⟨bx, hg_bx⟩ : ∃ g, g = w.heap.size := ⟨_, rfl⟩
 simp only [← hg_bx] at HB_bx ⊢
 have HN_V := hid (show bx = w.heap.size ∧ bg = w.heap.size + 1 ∧ br = w.heap.size + 1 + 1 ∧ ba = w.heap.size + 1 + 1 + 1 ∧ ba < V.heap.size from ⟨hg_bx, hg_bg, hg_br, hg_ba, HB_ba.out.1⟩)
 clear hg_bx hg_bg hg_br hg_ba
 have x_g := HB_bx.out.1
 have x_ws : V.cell? ⟨bx, 9, none⟩ = some (.slice wa n wc) := by rw [← HVW.out]; exact HB_bx.out.2.2 9 _ rfl
 have w0 : V.cell? ⟨bg, 0, none⟩ = some (.int .i64 g1) := HB_bg.out.2.2 0 _ rfl
 have w1 : V.cell? ⟨bg, 1, none⟩ = some (.int .u32 g2) := HB_bg.out.2.2 1 _ rfl
 have w2 : V.cell? ⟨bg, 2, none⟩ = some (.int .u32 g3) := HB_bg.out.2.2 2 _ rfl
 have wg := HB_bg.out.1
 have HL_ := hid (fun w' (h : Ext V w') => (And.intro (Nat.lt_of_lt_of_le x_g h.size) (And.intro (Nat.lt_of_lt_of_le wg h.size) (And.intro (h.cell x_ws) (And.intro (h.cell w0) (And.intro (h.cell w1) (h.cell w2)))))))
 refine wp_region_facts [7, 8, 9, 10, 11, 12, 13, 14, 15, 16, 17, 18, 19, 20] [0, 1, 2, 3, 4, 5, 6, 7, 8, 9, 10, 11, 12, 13] rfl (fun w' => Ext V w') (fsAt [IsV ?_, IsV ?_, IsV ?_, IsV ?_, IsV ?_, IsV ?_, IsV ?_, IsV ?_, IsV ?_, IsV ?_, IsV ?_, (fun v w' => ∃ q, v = .slice (some ⟨q, 0, none⟩) 1 1 ∧ Blk w' q (wdE (g1, g2, g3))), (fun v w' => ∃ av cv, v = .slice av (n + 1) cv ∧ Own w' V.heap.size 44 3 wdE v (d.ws ++ [(g1, g2, g3)])), IsV ?_]) (by kernel_rfl) (by kernel_rfl) ((Ext.refl _).drew) (fun w w' h he => h.trans he) (aC (fun _ _ _ h _ => h) (aC (fun _ _ _ h _ => h) (aC (fun _ _ _ h _ => h) (aC (fun _ _ _ h _ => h) (aC (fun _ _ _ h _ => h) (aC (fun _ _ _ h _ => h) (aC (fun _ _ _ h _ => h) (aC (fun _ _ _ h _ => h) (aC (fun _ _ _ h _ => h) (aC (fun _ _ _ h _ => h) (aC (fun _ _ _ h _ => h) (aC (fun _ _ _ h he => by obtain ⟨q, h1, h2⟩ := h; exact ⟨q, h1, h2.of he⟩) (aC (fun _ _ _ h he => by obtain ⟨q, q2, h1, h2⟩ := h; exact ⟨q, q2, h1, h2.of_ext he⟩) (aC (fun _ _ _ h _ => h) (AllOn.nil))))))))))))))) (aC ?_ (aC ?_ (aC ?_ (aC ?_ (aC ?_ (aC ?_ (aC ?_ (aC ?_ (aC ?_ (aC ?_ (aC ?_ (aC ?_ (aC ?_ (aC ?_ (AllOn.nil))))))))))))))) ?_
 rotate_left 12
 ·intro A w cx hO hD
  have e2 := evO hO 2 rfl
  clear hD hO
  refine hdV rfl ?_ rfl rfl ?_ ?_
  rotate_left 1
  ·simp [go_sem, e2, cx, HL_.out w cx, hna]
   try with_reducible rfl
  ·exact IsV.mk (w := w)
 ·intro A w cx hO hD
  have e7 := evD (hD 0 (by kernel_rfl) 7 rfl)
  clear hD hO
  refine hdV rfl ?_ rfl rfl ?_ ?_
  rotate_left 1
  ·simp [go_sem, e7, cx, HL_.out w cx, hna]
   try with_reducible rfl
  ·exact IsV.mk (w := w)
 ·intro A w cx hO hD
  have e2 := evO hO 2 rfl
  clear hD hO
  refine hdV rfl ?_ rfl rfl ?_ ?_
  rotate_left 1
  ·simp [go_sem, e2, cx, HL_.out w cx, hna]
   try with_reducible rfl
  ·exact IsV.mk (w := w)
 ·intro A w cx hO hD
  have e9 := evD (hD 2 (by kernel_rfl) 9 rfl)
  clear hD hO
  refine hdV rfl ?_ rfl rfl ?_ ?_
  rotate_left 1
  ·simp [go_sem, e9, cx, HL_.out w cx, hna]
   try with_reducible rfl
  ·exact IsV.mk (w := w)
 ·intro A w cx hO hD
  have e10 := evD (hD 3 (by kernel_rfl) 10 rfl)
  clear hD hO
  refine hdV rfl ?_ rfl rfl ?_ ?_
  rotate_left 1
  ·simp [go_sem, e10, cx, HL_.out w cx, hna]
   try with_reducible rfl
  ·exact IsV.mk (w := w)
 ·intro A w cx hO hD
  have e2 := evO hO 2 rfl
  clear hD hO
  refine hdV rfl ?_ rfl rfl ?_ ?_
  rotate_left 1
  ·simp [go_sem, e2, cx, HL_.out w cx, hna]
   try with_reducible rfl
  ·exact IsV.mk (w := w)
 ·intro A w cx hO hD
  have e12 := evD (hD 5 (by kernel_rfl) 12 rfl)
  clear hD hO
  refine hdV rfl ?_ rfl rfl ?_ ?_
  rotate_left 1
  ·simp [go_sem, e12, cx, HL_.out w cx, hna]
   try with_reducible rfl
  ·exact IsV.mk (w := w)
 ·intro A w cx hO hD
  have e13 := evD (hD 6 (by kernel_rfl) 13 rfl)
  clear hD hO
  refine hdV rfl ?_ rfl rfl ?_ ?_
  rotate_left 1
  ·simp [go_sem, e13, cx, HL_.out w cx, hna]
   try with_reducible rfl
  ·exact IsV.mk (w := w)
 ·intro A w cx hO hD
  have e8 := evD (hD 1 (by kernel_rfl) 8 rfl)
  have e11 := evD (hD 4 (by kernel_rfl) 11 rfl)
  have e14 := evD (hD 7 (by kernel_rfl) 14 rfl)
  clear hD hO
  refine hdV rfl ?_ rfl rfl ?_ ?_
  rotate_left 1
  ·simp [go_sem, e8, e11, e14, cx, HL_.out w cx, hna]
   try with_reducible rfl
  ·exact IsV.mk (w := w)
 ·intro A w cx hO hD
  have e3 := evO hO 3 rfl
  clear hD hO
  refine hdV rfl ?_ rfl rfl ?_ ?_
  rotate_left 1
  ·simp [go_sem, e3, cx, HL_.out w cx, hna]
   try with_reducible rfl
  ·exact IsV.mk (w := w)
 ·intro A w cx hO hD
  have e16 := evD (hD 9 (by kernel_rfl) 16 rfl)
  clear hD hO
  refine hdV rfl ?_ rfl rfl ?_ ?_
  rotate_left 1
  ·simp [go_sem, e16, cx, HL_.out w cx, hna]
   try with_reducible rfl
  ·exact IsV.mk (w := w)
 ·intro A w cx hO hD
  have e17 := evD (hD 10 (by kernel_rfl) 17 rfl)
  clear hD hO
  refine hdW rfl rfl ?_
  simp [go_sem, e17]
  exact ⟨_, rfl, Ext.of_alloc _ _, _, rfl, Blk.new _ _ rfl rfl⟩
 ·intro A w cx hO hD
  have e15 := evD (hD 8 (by kernel_rfl) 15 rfl)
  have e18 := hD 11 (by kernel_rfl) 18 rfl
  rw [ev_tm] at e18
  clear hD hO
  refine hdW rfl rfl ?_
  obtain ⟨q, e18, hq⟩ := e18
  refine wd_clip_op _ _ rfl ((ev_tm A 15).trans e15) (HA.out.of wdE_len (HE_V.out.trans cx)) _ 1 1 ((ev_tm A 18).trans e18) [(g1, g2, g3)] rfl (by decide) (blk_newsT hq) (by have := HN1.out; omega) ?_
  intro v' r hown
  obtain ⟨av, cv, hsh⟩ := Own.shape hown
  exact ⟨v', rfl, ⟨r, rfl⟩, av, cv, by rw [hsh, List.length_append, ← HNn.out]; rfl, Own.mono hown cx.size⟩
 ·intro A w cx hO hD
  have e2 := evO hO 2 rfl
  clear hD hO
  refine hdV rfl ?_ rfl rfl ?_ ?_
  rotate_left 1
  ·simp [go_sem, e2, cx, HL_.out w cx, hna]
   try with_reducible rfl
  ·exact IsV.mk (w := w)
 intro u wx hC hF
 obtain ⟨f0, f1, f2, f3, f4, f5, f6, f7, f8, f9, f10, f11, f12, f13, _⟩ := hF
 have g0 : u 0 = _ := f0
 have g1 : u 1 = _ := f1
 have g2 : u 2 = _ := f2
 have g3 : u 3 = _ := f3
 have g4 : u 4 = _ := f4
 have g5 : u 5 = _ := f5
 have g6 : u 6 = _ := f6
 have g7 : u 7 = _ := f7
 have g8 : u 8 = _ := f8
 have g9 : u 9 = _ := f9
 have g10 : u 10 = _ := f10
 obtain ⟨v11, g11⟩ : ∃ v, u 11 = v := ⟨_, rfl⟩
 rw [g11] at f11
 obtain ⟨v12, g12⟩ : ∃ v, u 12 = v := ⟨_, rfl⟩
 rw [g12] at f12
 have g13 : u 13 = _ := f13
 simp only [fPut, Nat.zero_add, Nat.reduceAdd, g0, g1, g2, g3, g4, g5, g6, g7, g8, g9, g10, g11, g12, g13, Act.put, List.setIfInBounds_toArray, List.set_cons_zero, List.set_cons_succ, List.length_cons, List.length_nil, List.drop_succ_cons, List.drop_zero]
 clear g0 g1 g2 g3 g4 g5 g6 g7 g8 g9 g10 g11 g12 g13 f0 f1 f2 f3 f4 f5 f6 f7 f8 f9 f10 f13
 have hxd := hC
 clear hC x_ws w0 w1 w2 wg x_g f11
 have HE_wx := hid (HE_V.out.trans hxd)
 have HB_bx2 := hid (HB_bx.out.of hxd)
 have HB_bg2 := hid (HB_bg.out.of hxd)
 have HB_br2 := hid (HB_br.out.of hxd)
 have HB_ba2 := hid (HB_ba.out.of hxd)
 clear HB_bx HB_bg HB_br HB_ba
 have HB_bx := HB_bx2
 have HB_bg := HB_bg2
 have HB_br := HB_br2
 have HB_ba := HB_ba2
 clear HB_bx2 HB_bg2 HB_br2 HB_ba2
 obtain ⟨av, cv, hv12, ho12⟩ := f12
 subst hv12
 have HOw := hid ho12
 have HVx := hid hxd.size
 clear ho12 hxd
 have x_g := HB_bx.out.1
 have x_f := HB_bx.out.2.1
 have x_ws : wx.cell? ⟨bx, 9, none⟩ = some X.ws := HB_bx.out.2.2 9 _ rfl
 go_upto_region 2 with fail
 generalize hZ_ : World.setCell _ _ _ = Q
 have HG_Q := hid (show GrL [bx] wx Q by rw [← hZ_]; exact glP)
 have HB_bx2 := hid (show Blk Q bx (hL (hR { X with ws := .slice av (n + 1) cv } { d with ws := d.ws ++ [(g1, g2, g3)] })) by rw [← hZ_]; exact HB_bx.out.set 9 (of_decide_eq_true rfl) _)
 clear hZ_ HB_bx x_ws x_g x_f
 have HB_bx := HB_bx2
 clear HB_bx2
 have HE_Q := hid (HE_wx.out.grl HG_Q.out (by have h1 := HN_V.out; simp; omega))
 have HB_br2 := hid (HB_br.out.grl HG_Q.out (by have h1 := HN_V.out; simp; omega))
 clear HB_br
 have HB_br := HB_br2
 clear HB_br2
 have HB_ba2 := hid (HB_ba.out.grl HG_Q.out (by have h1 := HN_V.out; simp; omega))
 clear HB_ba
 have HB_ba := HB_ba2
 clear HB_ba2
 have HWQ := hid (show Sl Q 3 wdE (.slice av (n + 1) cv) (d.ws ++ [(g1, g2, g3)]) from (Own.sl_grl wdE_len HOw.out HG_Q.out (by have h1 := HN_V.out; omega)))
 have HNb := hid (HOw.out.newb)
 go_wp2_with (first | (refine ld_blk rfl 106 _ rfl rfl _ HB_bx.out Tryz.underlying106 rfl Tryz.hInfo ?_))
 refine (hp_load (X := { X with ws := .slice av (n + 1) cv }) ⟨rfl, HO.out.es, HO.out.inn⟩ { d with ws := d.ws ++ [(g1, g2, g3)] } HDn.out Q HWQ.out (HS.out.of HE_Q.out)).mono ?_
 rintro e w9 ⟨rfl, he⟩
 have HE9 := hid he
 have HE1 := hid (HE_Q.out.trans he)
 have HBr := hid (HB_br.out.of he)
 have HBa := hid (HB_ba.out.of he)
 clear he
 go_wp2_with (first | (refine st_blk rfl 106 _ _ rfl rfl rfl HBr.out rfl Tryz.hInfo (Hr.One.all (hR_one (X := { X with ws := .slice av (n + 1) cv }) ⟨rfl, HO.out.es, HO.out.inn⟩ _)) ?_; intro W1 hb1 hg1) | (refine st_blk rfl 46 _ _ rfl rfl rfl (HBa.out.grl hg1 (by have h1 := HN_V.out; simp; omega)) rfl Tryz.aInfo (a8E_one' _) ?_; intro W2 hb2 hg2))
 have HGf := (GrL.of_ext (L := [br, ba]) HE9.out).trans ((hg1.wide (by simp)).trans (hg2.wide (by simp)))
 exact bodyPost_ret (res3 Tryz.results119 rfl rfl rfl (hb1.grl hg2 (by have h1 := HN_V.out; simp; omega)) hb2 Tryz.underlying106 rfl Tryz.hInfo Tryz.underlying46 rfl Tryz.aInfo) rfl ⟨_, rfl, (HE1.out.grl hg1 (by have h1 := HN_V.out; simp; omega)).grl hg2 (by have h1 := HN_V.out; simp; omega), Sl.grl_own wdE_len HWQ.out HGf (by intro a n c h; have h1 := HNb.out a n c h; have h2 := HN_V.out; simp; omega), fun a n c h => Nat.le_trans HE_V.out.size (HNb.out a n c h)⟩
open Go.RowKit
open Go.RowKit
def rplaceN (T B sl rm who : Int) : Int × Int :=
 if 1 ≤ who ∧ who ≤ T then (sl + (who - 1) * 104, 32) else if 9 ≤ who ∧ who < 9 + B then (rm + (who - 9) * 32, 10) else (-1, 0)
open Go.RowKit
def enB (x y : En) : Bool := decide (x.loc = y.loc) && (decide (x.val = y.val) && decide (x.ver = y.ver) && decide (x.ref = y.ref)) && decide (x.new = y.new) && decide (x.wr = y.wr)
def sameG (l k : List En) : Bool := (l.zip k).all (fun p => enB p.1 p.2)
def sameB (l k : List En) : Bool := decide (l.length = k.length) && sameG l k
open Go.RowKit
def unpackTo (l : List Wd) (p : Nat) : Nat → Option (List En)
 | 0 => some []
 | k + 1 => match unpackTo l p k, l[p + 3 * k]?, l[p + 3 * k + 1]?, l[p + 3 * k + 2]? with
  | some es, some x, some y, some z => if unpackB x y z = true then some (es ++ [unpackE x y z]) else none
  | _, _, _, _ => none
def headB (s n : Wd) (pm : Int) : Bool := decide (0 ≤ s.1 ∧ s.1 ≤ 3) && (decide (s.2.2 = 0) && decide (1 ≤ n.1 ∧ n.1 ≤ pm) && wdB n (n.1, 0, 0))
def readN (t c b : Int) (l : List Wd) (who : Int) : Int × Option (Int × Int × List En) :=
 if checkN t c b ≠ 0 ∨ (l.length : Int) < sizeN t c b then (1, none) else if (placeN t c b who).2 = 0 then (3, none)
 else match l[(placeN t c b who).1.toNat]?, l[(placeN t c b who).1.toNat + 1]? with
  | some s, some n => if headB s n (placeN t c b who).2 = true then
   (match unpackTo l ((placeN t c b who).1.toNat + 2) n.1.toNat with
    | some es => if dcheckN t c b who s.2.1 s.1 es = 0 then (0, some (s.2.1, s.1, es)) else (5, none)
    | none => (5, none))
   else (5, none)
  | _, _ => (5, none)
open Go.RowKit
open Go.RowKit
def ReadPost (w : World) (t c b : Int) (l : List Wd) (who : Int) (y : Ending) (w' : World) : Prop := (∃ r, w' = ext w r) ∧ match (readN t c b l who).2 with
 | none => y = .returned (.tuple #[.agg #[.int .i64 0, .int .i64 0, .int .i64 0, .slice none 0 0], .int .i64 (readN t c b l who).1])
 | some (seq, st, es) => ∃ v', y = .returned (.tuple #[.agg #[.int .i64 who, .int .i64 seq, .int .i64 st, v'], .int .i64 0]) ∧ Es w' v' es
def readT (t c b who s2 s1 : Int) : Option (List En) → Int × Option (Int × Int × List En)
 | some es => if dcheckN t c b who s2 s1 es = 0 then (0, some (s2, s1, es)) else (5, none)
 | none => (5, none)
theorem Sl.nine {w : World} {bb oo n c : Nat} {l : List Wd} (h : Sl w 3 wdE (.slice (some ⟨bb, oo, none⟩) n c) l) {i : Nat} {x1 x2 x3 y1 y2 y3 z1 z2 z3 : Int} (hx : l[i]? = some (x1, x2, x3)) (hy : l[i + 1]? = some (y1, y2, y3)) (hz : l[i + 2]? = some (z1, z2, z3)) :
 w.cell? ⟨bb, oo + i * 3, none⟩ = some (.int .i64 x1) ∧ w.cell? ⟨bb, oo + i * 3 + 1, none⟩ = some (.int .u32 x2) ∧ w.cell? ⟨bb, oo + i * 3 + 2, none⟩ = some (.int .u32 x3) ∧
 w.cell? ⟨bb, oo + i * 3 + 3, none⟩ = some (.int .i64 y1) ∧ w.cell? ⟨bb, oo + i * 3 + 4, none⟩ = some (.int .u32 y2) ∧ w.cell? ⟨bb, oo + i * 3 + 5, none⟩ = some (.int .u32 y3) ∧
 w.cell? ⟨bb, oo + i * 3 + 6, none⟩ = some (.int .i64 z1) ∧ w.cell? ⟨bb, oo + i * 3 + 7, none⟩ = some (.int .u32 z2) ∧ w.cell? ⟨bb, oo + i * 3 + 8, none⟩ = some (.int .u32 z3) := by
 obtain ⟨_, _, _, ha1, _, hc1⟩ := Sl.at h hx
 cases ha1
 obtain ⟨_, _, _, ha1, _, hc2⟩ := Sl.at h hy
 cases ha1
 obtain ⟨_, _, _, ha1, _, hc3⟩ := Sl.at h hz
 cases ha1
 have e : ∀ (a b : Nat) (v : Value), a = b → w.cell? ⟨bb, a, none⟩ = some v → w.cell? ⟨bb, b, none⟩ = some v := by rintro a b v rfl h; exact h
 exact ⟨e _ _ _ (by omega) (hc1 0 (by omega)), e _ _ _ (by omega) (hc1 1 (by omega)), e _ _ _ (by omega) (hc1 2 (by omega)), e _ _ _ (by omega) (hc2 0 (by omega)), e _ _ _ (by omega) (hc2 1 (by omega)), e _ _ _ (by omega) (hc2 2 (by omega)), e _ _ _ (by omega) (hc3 0 (by omega)), e _ _ _ (by omega) (hc3 1 (by omega)), e _ _ _ (by omega) (hc3 2 (by omega))⟩
theorem Tryz.infoEntry : (Tryz.prog.info? 120).map (fun i => (i.zero, i.size, i.bytes)) = some (some (.agg #[.int .i64 0, .int .i64 0, .int .u32 0, .int .u32 0, .int .i64 0, .bool false]), 6, 40) := by kernel_rfl
theorem es_append_b {ops : Array Oper} {rest : List Oper} {o : Oper} {a : Act} {Q : Exit → Act → World → Prop} {w : World} {base : Nat} {v : Value} {l : List En} (hgd : o.guard = none)
 (s x : Operand) (ho : o.op = .call { callee := .builtin .append, args := #[s, x], argTypes := #[103, 103] })
 (W : World) (hW : Ext W w) (hWb : W.heap.size ≤ base) (hbw : base ≤ w.heap.size) (hs : a.eval s = v) (hown : Own w base 120 6 enE v l)
 (ad : Addr) (m c : Nat) (hx : a.eval x = .slice (some ad) m c) (news : List En) (hm : news.length = m)
 (hnews : ∀ (j : Nat) (u : Value), (news.flatMap enE)[j]? = some u → w.cell? (ad.add j) = some u)
 (hlen : l.length + m ≤ 1000000)
 (h : ∀ v' w', Own w' base 120 6 enE v' (l ++ news) → Ext W w' → Below base w w' → wpList Tryz.prog ops Q rest (a.put o.dst v') w') : wpList Tryz.prog ops Q (o :: rest) a w := by
 obtain ⟨i0, hi, hz0, hz1, hz2⟩ := info_parts Tryz.infoEntry
 exact own_append_b Tryz.underlying103 hi hz0 hz1 hz2 rfl (by decide) enE_len enE_one hgd s x ho W hW hWb hbw hs hown ad m c hx news hm hnews (by unfold maxLen; omega) (by omega) h
end Go.Proofs.YtiacdohaiidehaaGreatDoor
