/- Walks of package help: found, installed. -/
import Derived.Test.YtiacdohaiidehaaGreatDoorPk35
namespace Go.Proofs.YtiacdohaiidehaaGreatDoor
set_option linter.unusedSimpArgs false
set_option linter.unusedVariables false
open Go.RowKit
theorem wrel_r (g1 g2 g3 v : Int) (wr : Bool) (h2 : 0 ≤ g2 ∧ g2 ≤ 4294967295) (h3 : 0 ≤ g3 ∧ g3 ≤ 4294967295) {r1 r2 r3 re : Int} (hr : ((r1, r2, r3), re) = relN (g1, g2, g3) v wr) (w : World) : Calls Tryz.prog 177 #[.agg #[.int .i64 g1, .int .u32 g2, .int .u32 g3], .int .i64 v, .bool wr] w fun e w' => e = .returned (.tuple #[.agg #[.int .i64 r1, .int .u32 r2, .int .u32 r3], .int .i64 re]) ∧ Ext w w' := by
 have h := wrel_any g1 g2 g3 v wr h2 h3 w
 rw [← hr] at h
 exact h
set_option maxRecDepth 100000 in
set_option maxHeartbeats 1000000 in
theorem hp_found {X : HX} (ho : X.One) (d : Hd) (hd : HdN d) (hl : d.i < d.es.length) (hn : X.inn = .nilIface) (g : Gt) (hg : WdOk g.1) (w : World) (he : Sl w 6 enE X.es d.es) :
 Calls Tryz.prog 172 #[.agg (hL (hR X d)).toArray, .agg (gtE g).toArray] w fun e w' => e = .returned (.tuple #[.agg (hL (hR X (hpFound X.dur d g.1).1)).toArray, .agg (a8E (hpFound X.dur d g.1).2.1).toArray, .bool (hpFound X.dur d g.1).2.2]) ∧ Ext w w' := by
 have HO := hid ho
 clear ho
 have HEs := hid he
 have HNi := hid hn
 have HDn := hid hd
 have HL := hid hl
 have HG2 := hid hg.2.1
 have HG3 := hid hg.2.2
 obtain ⟨eb, eo, ec, n, hn', hv, heb, hlt, hcells⟩ := cur_at he hl
 have HC := hid hcells
 have HVE := hid hv
 clear hg he hn hd hl hn' hv heb hcells
 obtain ⟨⟨g1, g2, g3⟩, gk⟩ := g
 dsimp only at HG2 HG3
 by_cases h1 : g3 = d.ref
 ·subst h1
  cases hwr : d.cur.wr
  ·have HWb := hid (show (d.cur.wr && decide (d.vd = 1)) = false by rw [hwr]; rfl)
   obtain ⟨⟨⟨r1, r2, r3⟩, re⟩, hr⟩ : ∃ r, r = relN (g1, g2, d.ref) d.cur.new false := ⟨_, rfl⟩
   have HRl := hid hr
   by_cases h2 : re = 0
   ·have HR := hid (show hpFound X.dur d (g1, g2, d.ref) = hpAsk d (swapA d.cur.loc (g1, g2, d.ref) (r1, r2, r3)) 16 by unfold hpFound; dsimp only; rw [HWb.out, ← HRl.out]; exact if_pos ⟨rfl, h2⟩)
    rw [HR.out]
    have hb2 : (re == 0) = true := beq_iff_eq.2 h2
    have hwr2 : d.cur.wr = false := hwr
    clear hr hwr h2
    go_enter Tryz.func172, Tryz.ntmps172
    go_upto_region 1 with fail
    generalize hV_ : World.alloc _ _ = V
    have HE_V := hid (show Ext w V by rw [← hV_]; exact exP)
    have HB_bx := hid (show Blk V (w.heap.size) (hL (hR X d)) by rw [← hV_]; exact bkP)
    have HB_bg := hid (show Blk V (w.heap.size + 1) (gtE ((g1, g2, d.ref), gk)) by rw [← hV_]; exact bkP)
    have HB_br := hid (show Blk V (w.heap.size + 1 + 1) zH by rw [← hV_]; exact bkP)
    have HB_ba := hid (show Blk V (w.heap.size + 1 + 1 + 1) [.int .i64 0, .int .i64 0, .int .i64 0, .int .u32 0, .int .u32 0, .int .i64 0, .int .u32 0, .int .u32 0] by rw [← hV_]; exact bkP)
    clear hV_
    obtain ⟨ba, hg_ba⟩ : ∃ g, g = w.heap.size + 1 + 1 + 1 := ⟨_, rfl⟩
    simp only [← hg_ba] at HB_ba ⊢
    obtain ⟨br, hg_br⟩ : ∃ g, g = w.heap.size + 1 + 1 := ⟨_, rfl⟩
    simp only [← hg_br] at HB_br ⊢
    obtain ⟨bg, hg_bg⟩ : ∃ g, g = w.heap.size + 1 := ⟨_, rfl⟩
    simp only [← hg_bg] at HB_bg ⊢
    obtain ⟨bx, hg_bx⟩ : ∃ g, g = w.heap.size := ⟨_, rfl⟩
    simp only [← hg_bx] at HB_bx ⊢
    have HN_V := hid (show bx = w.heap.size ∧ bg = w.heap.size + 1 ∧ br = w.heap.size + 1 + 1 ∧ ba = w.heap.size + 1 + 1 + 1 ∧ ba < V.heap.size from ⟨hg_bx, hg_bg, hg_br, hg_ba, HB_ba.out.1⟩)
    clear hg_bx hg_bg hg_br hg_ba
    have x_i : V.cell? ⟨bx, 12, none⟩ = some (.int .i64 (d.i : Int)) := HB_bx.out.2.2 12 _ rfl
    have x_g := HB_bx.out.1
    have x_es : V.cell? ⟨bx, 11, none⟩ = some (.slice (some ⟨eb, eo, none⟩) n ec) := by rw [← HVE.out]; exact HB_bx.out.2.2 11 _ rfl
    obtain ⟨c_g, c_loc, c_val, c_ver, c_ref, c_new, c_wr⟩ := HC.out V HE_V.out
    go_upto_region 2 with fail
    generalize hV_ : World.alloc _ _ = U
    have HE_U := hid (show Ext V U by rw [← hV_]; exact exP)
    have HB_be := hid (show Blk U (V.heap.size) [.int .i64 d.cur.loc, .int .i64 d.cur.val, .int .u32 d.cur.ver, .int .u32 d.cur.ref, .int .i64 d.cur.new, .bool false] by rw [← hV_]; exact bkP)
    clear hV_
    obtain ⟨be, hg_be⟩ : ∃ g, g = V.heap.size := ⟨_, rfl⟩
    simp only [← hg_be] at HB_be ⊢
    have HN_U := hid (show be = V.heap.size ∧ be < U.heap.size from ⟨hg_be, HB_be.out.1⟩)
    clear hg_be
    clear x_i x_g x_es c_g c_loc c_val c_ver c_ref c_new c_wr hlt
    have hVU := HE_U.out
    have HE_VU := hid (HE_V.out.trans hVU)
    have HB_bx2 := hid (HB_bx.out.of hVU)
    have HB_bg2 := hid (HB_bg.out.of hVU)
    have HB_br2 := hid (HB_br.out.of hVU)
    have HB_ba2 := hid (HB_ba.out.of hVU)
    clear HB_bx HB_bg HB_br HB_ba
    have HB_bx := HB_bx2
    have HB_bg := HB_bg2
    have HB_br := HB_br2
    have HB_ba := HB_ba2
    clear HB_bx2 HB_bg2 HB_br2 HB_ba2
    clear hVU
    have w0 : U.cell? ⟨bg, 0, none⟩ = some (.int .i64 g1) := HB_bg.out.2.2 0 _ rfl
    have w1 : U.cell? ⟨bg, 1, none⟩ = some (.int .u32 g2) := HB_bg.out.2.2 1 _ rfl
    have w2 : U.cell? ⟨bg, 2, none⟩ = some (.int .u32 d.ref) := HB_bg.out.2.2 2 _ rfl
    have wg := HB_bg.out.1
    have x_ref : U.cell? ⟨bx, 3, none⟩ = some (.int .u32 d.ref) := HB_bx.out.2.2 3 _ rfl
    have x_vd : U.cell? ⟨bx, 13, none⟩ = some (.int .i64 d.vd) := HB_bx.out.2.2 13 _ rfl
    have x_g := HB_bx.out.1
    have z0 := (HB_be.out).2.2 0 _ rfl
    have z1 := (HB_be.out).2.2 1 _ rfl
    have z2 := (HB_be.out).2.2 2 _ rfl
    have z3 := (HB_be.out).2.2 3 _ rfl
    have z4 := (HB_be.out).2.2 4 _ rfl
    have z5 := (HB_be.out).2.2 5 _ rfl
    have zf := (HB_be.out).2.1
    have zg := (HB_be.out).1
    go_wp2_with fail
    refine (wrel_r g1 g2 d.ref d.cur.new false HG2.out HG3.out HRl.out U).mono ?_
    rintro e w4 ⟨rfl, hx_⟩
    clear w0 w1 w2 wg
    clear x_ref x_vd x_g z0 z1 z2 z3 z4 z5 zf zg
    have HBe4 := hid (HB_be.out.of hx_)
    have HE_w4 := hid (HE_VU.out.trans hx_)
    have HB_bx2 := hid (HB_bx.out.of hx_)
    have HB_bg2 := hid (HB_bg.out.of hx_)
    have HB_br2 := hid (HB_br.out.of hx_)
    have HB_ba2 := hid (HB_ba.out.of hx_)
    clear HB_bx HB_bg HB_br HB_ba
    have HB_bx := HB_bx2
    have HB_bg := HB_bg2
    have HB_br := HB_br2
    have HB_ba := HB_ba2
    clear HB_bx2 HB_bg2 HB_br2 HB_ba2
    clear hx_
    go_upto_region 4 with fail
    generalize hV_ : World.alloc _ _ = Z
    have HE_Z := hid (show Ext w4 Z by rw [← hV_]; exact exP)
    have HB_bq := hid (show Blk Z (w4.heap.size) [.int .i64 r1, .int .u32 r2, .int .u32 r3] by rw [← hV_]; exact bkP)
    clear hV_
    obtain ⟨bq, hg_bq⟩ : ∃ g, g = w4.heap.size := ⟨_, rfl⟩
    simp only [← hg_bq] at HB_bq ⊢
    have HN_Z := hid (show bq = w4.heap.size ∧ bq < Z.heap.size from ⟨hg_bq, HB_bq.out.1⟩)
    clear hg_bq
    have hVZ := HE_Z.out
    have HBeZ := hid (HBe4.out.of hVZ)
    have HE_wZ := hid (HE_w4.out.trans hVZ)
    have HB_bx2 := hid (HB_bx.out.of hVZ)
    have HB_bg2 := hid (HB_bg.out.of hVZ)
    have HB_br2 := hid (HB_br.out.of hVZ)
    have HB_ba2 := hid (HB_ba.out.of hVZ)
    clear HB_bx HB_bg HB_br HB_ba
    have HB_bx := HB_bx2
    have HB_bg := HB_bg2
    have HB_br := HB_br2
    have HB_ba := HB_ba2
    clear HB_bx2 HB_bg2 HB_br2 HB_ba2
    clear hVZ
    have w0 : Z.cell? ⟨bg, 0, none⟩ = some (.int .i64 g1) := HB_bg.out.2.2 0 _ rfl
    have w1 : Z.cell? ⟨bg, 1, none⟩ = some (.int .u32 g2) := HB_bg.out.2.2 1 _ rfl
    have w2 : Z.cell? ⟨bg, 2, none⟩ = some (.int .u32 d.ref) := HB_bg.out.2.2 2 _ rfl
    have wg := HB_bg.out.1
    have z0 := (HBeZ.out).2.2 0 _ rfl
    have z1 := (HBeZ.out).2.2 1 _ rfl
    have z2 := (HBeZ.out).2.2 2 _ rfl
    have z3 := (HBeZ.out).2.2 3 _ rfl
    have z4 := (HBeZ.out).2.2 4 _ rfl
    have z5 := (HBeZ.out).2.2 5 _ rfl
    have zf := (HBeZ.out).2.1
    have zg := (HBeZ.out).1
    have q0 := (HB_bq.out).2.2 0 _ rfl
    have q1 := (HB_bq.out).2.2 1 _ rfl
    have q2 := (HB_bq.out).2.2 2 _ rfl
    have qf := (HB_bq.out).2.1
    have qg := (HB_bq.out).1
    have x_g := HB_bx.out.1
    go_wp2_with (first | (refine ld_blk rfl 106 _ rfl rfl _ HB_bx.out Tryz.underlying106 rfl Tryz.hInfo ?_))
    clear w0 w1 w2 wg
    clear z0 z1 z2 z3 z4 z5 zf zg q0 q1 q2 qf qg x_g
    refine (hp_ask HO.out d (swapA d.cur.loc (g1, g2, d.ref) (r1, r2, r3)) 16 Z).mono ?_
    rintro e w1 ⟨rfl, he⟩
    have HE1 := hid (HE_wZ.out.trans he)
    have HBr := hid (HB_br.out.of he)
    have HBa := hid (HB_ba.out.of he)
    clear he
    go_wp2_with (first | (refine st_blk rfl 106 _ _ rfl rfl rfl HBr.out rfl Tryz.hInfo (Hr.One.all (hR_one HO.out _)) ?_; intro W1 hb1 hg1) | (refine st_blk rfl 46 _ _ rfl rfl rfl (HBa.out.grl hg1 (by have h1 := HN_V.out; simp; omega)) rfl Tryz.aInfo (a8E_one' _) ?_; intro W2 hb2 hg2))
    exact bodyPost_ret (res3 Tryz.results172 rfl rfl rfl (hb1.grl hg2 (by have h1 := HN_V.out; simp; omega)) hb2 Tryz.underlying106 rfl Tryz.hInfo Tryz.underlying46 rfl Tryz.aInfo) rfl ⟨rfl, (HE1.out.grl hg1 (by have h1 := HN_V.out; simp; omega)).grl hg2 (by have h1 := HN_V.out; simp; omega)⟩
   ·have HR := hid (show hpFound X.dur d (g1, g2, d.ref) = hpFreed X.dur d by unfold hpFound; dsimp only; rw [HWb.out, ← HRl.out]; exact if_neg (fun h => h2 h.2))
    rw [HR.out]
    have hb2 : (re == 0) = false := beq_eq_false_iff_ne.2 h2
    have hwr2 : d.cur.wr = false := hwr
    clear hr hwr h2
    go_enter Tryz.func172, Tryz.ntmps172
    go_upto_region 1 with fail
    generalize hV_ : World.alloc _ _ = V
    have HE_V := hid (show Ext w V by rw [← hV_]; exact exP)
    have HB_bx := hid (show Blk V (w.heap.size) (hL (hR X d)) by rw [← hV_]; exact bkP)
    have HB_bg := hid (show Blk V (w.heap.size + 1) (gtE ((g1, g2, d.ref), gk)) by rw [← hV_]; exact bkP)
    have HB_br := hid (show Blk V (w.heap.size + 1 + 1) zH by rw [← hV_]; exact bkP)
    have HB_ba := hid (show Blk V (w.heap.size + 1 + 1 + 1) [.int .i64 0, .int .i64 0, .int .i64 0, .int .u32 0, .int .u32 0, .int .i64 0, .int .u32 0, .int .u32 0] by rw [← hV_]; exact bkP)
    clear hV_
    obtain ⟨ba, hg_ba⟩ : ∃ g, g = w.heap.size + 1 + 1 + 1 := ⟨_, rfl⟩
    simp only [← hg_ba] at HB_ba ⊢
    obtain ⟨br, hg_br⟩ : ∃ g, g = w.heap.size + 1 + 1 := ⟨_, rfl⟩
    simp only [← hg_br] at HB_br ⊢
    obtain ⟨bg, hg_bg⟩ : ∃ g, g = w.heap.size + 1 := ⟨_, rfl⟩
    simp only [← hg_bg] at HB_bg ⊢
    obtain ⟨bx, hg_bx⟩ : ∃ g, g = w.heap.size := ⟨_, rfl⟩
    simp only [← hg_bx] at HB_bx ⊢
    have HN_V := hid (show bx = w.heap.size ∧ bg = w.heap.size + 1 ∧ br = w.heap.size + 1 + 1 ∧ ba = w.heap.size + 1 + 1 + 1 ∧ ba < V.heap.size from ⟨hg_bx, hg_bg, hg_br, hg_ba, HB_ba.out.1⟩)
    clear hg_bx hg_bg hg_br hg_ba
    have x_i : V.cell? ⟨bx, 12, none⟩ = some (.int .i64 (d.i : Int)) := HB_bx.out.2.2 12 _ rfl
    have x_g := HB_bx.out.1
    have x_es : V.cell? ⟨bx, 11, none⟩ = some (.slice (some ⟨eb, eo, none⟩) n ec) := by rw [← HVE.out]; exact HB_bx.out.2.2 11 _ rfl
    obtain ⟨c_g, c_loc, c_val, c_ver, c_ref, c_new, c_wr⟩ := HC.out V HE_V.out
    go_upto_region 2 with fail
    generalize hV_ : World.alloc _ _ = U
    have HE_U := hid (show Ext V U by rw [← hV_]; exact exP)
    have HB_be := hid (show Blk U (V.heap.size) [.int .i64 d.cur.loc, .int .i64 d.cur.val, .int .u32 d.cur.ver, .int .u32 d.cur.ref, .int .i64 d.cur.new, .bool false] by rw [← hV_]; exact bkP)
    clear hV_
    obtain ⟨be, hg_be⟩ : ∃ g, g = V.heap.size := ⟨_, rfl⟩
    simp only [← hg_be] at HB_be ⊢
    have HN_U := hid (show be = V.heap.size ∧ be < U.heap.size from ⟨hg_be, HB_be.out.1⟩)
    clear hg_be
    clear x_i x_g x_es c_g c_loc c_val c_ver c_ref c_new c_wr hlt
    have hVU := HE_U.out
    have HE_VU := hid (HE_V.out.trans hVU)
    have HB_bx2 := hid (HB_bx.out.of hVU)
    have HB_bg2 := hid (HB_bg.out.of hVU)
    have HB_br2 := hid (HB_br.out.of hVU)
    have HB_ba2 := hid (HB_ba.out.of hVU)
    clear HB_bx HB_bg HB_br HB_ba
    have HB_bx := HB_bx2
    have HB_bg := HB_bg2
    have HB_br := HB_br2
    have HB_ba := HB_ba2
    clear HB_bx2 HB_bg2 HB_br2 HB_ba2
    clear hVU
    have w0 : U.cell? ⟨bg, 0, none⟩ = some (.int .i64 g1) := HB_bg.out.2.2 0 _ rfl
    have w1 : U.cell? ⟨bg, 1, none⟩ = some (.int .u32 g2) := HB_bg.out.2.2 1 _ rfl
    have w2 : U.cell? ⟨bg, 2, none⟩ = some (.int .u32 d.ref) := HB_bg.out.2.2 2 _ rfl
    have wg := HB_bg.out.1
    have x_ref : U.cell? ⟨bx, 3, none⟩ = some (.int .u32 d.ref) := HB_bx.out.2.2 3 _ rfl
    have x_vd : U.cell? ⟨bx, 13, none⟩ = some (.int .i64 d.vd) := HB_bx.out.2.2 13 _ rfl
    have x_g := HB_bx.out.1
    have z0 := (HB_be.out).2.2 0 _ rfl
    have z1 := (HB_be.out).2.2 1 _ rfl
    have z2 := (HB_be.out).2.2 2 _ rfl
    have z3 := (HB_be.out).2.2 3 _ rfl
    have z4 := (HB_be.out).2.2 4 _ rfl
    have z5 := (HB_be.out).2.2 5 _ rfl
    have zf := (HB_be.out).2.1
    have zg := (HB_be.out).1
    go_wp2_with fail
    refine (wrel_r g1 g2 d.ref d.cur.new false HG2.out HG3.out HRl.out U).mono ?_
    rintro e w4 ⟨rfl, hx_⟩
    clear w0 w1 w2 wg
    clear x_ref x_vd x_g z0 z1 z2 z3 z4 z5 zf zg
    have HBe4 := hid (HB_be.out.of hx_)
    have HE_w4 := hid (HE_VU.out.trans hx_)
    have HB_bx2 := hid (HB_bx.out.of hx_)
    have HB_bg2 := hid (HB_bg.out.of hx_)
    have HB_br2 := hid (HB_br.out.of hx_)
    have HB_ba2 := hid (HB_ba.out.of hx_)
    clear HB_bx HB_bg HB_br HB_ba
    have HB_bx := HB_bx2
    have HB_bg := HB_bg2
    have HB_br := HB_br2
    have HB_ba := HB_ba2
    clear HB_bx2 HB_bg2 HB_br2 HB_ba2
    clear hx_
    go_upto_region 4 with fail
    generalize hV_ : World.alloc _ _ = Z
    have HE_Z := hid (show Ext w4 Z by rw [← hV_]; exact exP)
    have HB_bq := hid (show Blk Z (w4.heap.size) [.int .i64 r1, .int .u32 r2, .int .u32 r3] by rw [← hV_]; exact bkP)
    clear hV_
    obtain ⟨bq, hg_bq⟩ : ∃ g, g = w4.heap.size := ⟨_, rfl⟩
    simp only [← hg_bq] at HB_bq ⊢
    have HN_Z := hid (show bq = w4.heap.size ∧ bq < Z.heap.size from ⟨hg_bq, HB_bq.out.1⟩)
    clear hg_bq
    have hVZ := HE_Z.out
    have HBeZ := hid (HBe4.out.of hVZ)
    have HE_wZ := hid (HE_w4.out.trans hVZ)
    have HB_bx2 := hid (HB_bx.out.of hVZ)
    have HB_bg2 := hid (HB_bg.out.of hVZ)
    have HB_br2 := hid (HB_br.out.of hVZ)
    have HB_ba2 := hid (HB_ba.out.of hVZ)
    clear HB_bx HB_bg HB_br HB_ba
    have HB_bx := HB_bx2
    have HB_bg := HB_bg2
    have HB_br := HB_br2
    have HB_ba := HB_ba2
    clear HB_bx2 HB_bg2 HB_br2 HB_ba2
    clear hVZ
    have HEU := hid (show Sl Z 6 enE X.es d.es from HEs.out.of enE_len HE_wZ.out)
    go_wp2_with (first | (refine ld_blk rfl 106 _ rfl rfl _ HB_bx.out Tryz.underlying106 rfl Tryz.hInfo ?_))
    refine (hp_freed HO.out d HDn.out HL.out HNi.out ((0, 0, 0), false) Z HEU.out).mono ?_
    rintro e w1 ⟨rfl, he⟩
    have HE1 := hid (HE_wZ.out.trans he)
    have HBr := hid (HB_br.out.of he)
    have HBa := hid (HB_ba.out.of he)
    clear he
    go_wp2_with (first | (refine st_blk rfl 106 _ _ rfl rfl rfl HBr.out rfl Tryz.hInfo (Hr.One.all (hR_one HO.out _)) ?_; intro W1 hb1 hg1) | (refine st_blk rfl 46 _ _ rfl rfl rfl (HBa.out.grl hg1 (by have h1 := HN_V.out; simp; omega)) rfl Tryz.aInfo (a8E_one' _) ?_; intro W2 hb2 hg2))
    exact bodyPost_ret (res3 Tryz.results172 rfl rfl rfl (hb1.grl hg2 (by have h1 := HN_V.out; simp; omega)) hb2 Tryz.underlying106 rfl Tryz.hInfo Tryz.underlying46 rfl Tryz.aInfo) rfl ⟨rfl, (HE1.out.grl hg1 (by have h1 := HN_V.out; simp; omega)).grl hg2 (by have h1 := HN_V.out; simp; omega)⟩
  ·have HWb := hid (show (d.cur.wr && decide (d.vd = 1)) = (decide (d.vd = 1)) by rw [hwr]; rfl)
   obtain ⟨⟨⟨r1, r2, r3⟩, re⟩, hr⟩ : ∃ r, r = relN (g1, g2, d.ref) d.cur.new (decide (d.vd = 1)) := ⟨_, rfl⟩
   have HRl := hid hr
   by_cases h2 : re = 0
   ·have HR := hid (show hpFound X.dur d (g1, g2, d.ref) = hpAsk d (swapA d.cur.loc (g1, g2, d.ref) (r1, r2, r3)) 16 by unfold hpFound; dsimp only; rw [HWb.out, ← HRl.out]; exact if_pos ⟨rfl, h2⟩)
    rw [HR.out]
    have hb2 : (re == 0) = true := beq_iff_eq.2 h2
    have hwr2 : d.cur.wr = true := hwr
    clear hr hwr h2
    go_enter Tryz.func172, Tryz.ntmps172
    go_upto_region 1 with fail
    generalize hV_ : World.alloc _ _ = V
    have HE_V := hid (show Ext w V by rw [← hV_]; exact exP)
    have HB_bx := hid (show Blk V (w.heap.size) (hL (hR X d)) by rw [← hV_]; exact bkP)
    have HB_bg := hid (show Blk V (w.heap.size + 1) (gtE ((g1, g2, d.ref), gk)) by rw [← hV_]; exact bkP)
    have HB_br := hid (show Blk V (w.heap.size + 1 + 1) zH by rw [← hV_]; exact bkP)
    have HB_ba := hid (show Blk V (w.heap.size + 1 + 1 + 1) [.int .i64 0, .int .i64 0, .int .i64 0, .int .u32 0, .int .u32 0, .int .i64 0, .int .u32 0, .int .u32 0] by rw [← hV_]; exact bkP)
    clear hV_
    obtain ⟨ba, hg_ba⟩ : ∃ g, g = w.heap.size + 1 + 1 + 1 := ⟨_, rfl⟩
    simp only [← hg_ba] at HB_ba ⊢
    obtain ⟨br, hg_br⟩ : ∃ g, g = w.heap.size + 1 + 1 := ⟨_, rfl⟩
    simp only [← hg_br] at HB_br ⊢
    obtain ⟨bg, hg_bg⟩ : ∃ g, g = w.heap.size + 1 := ⟨_, rfl⟩
    simp only [← hg_bg] at HB_bg ⊢
    obtain ⟨bx, hg_bx⟩ : ∃ g, g = w.heap.size := ⟨_, rfl⟩
    simp only [← hg_bx] at HB_bx ⊢
    have HN_V := hid (show bx = w.heap.size ∧ bg = w.heap.size + 1 ∧ br = w.heap.size + 1 + 1 ∧ ba = w.heap.size + 1 + 1 + 1 ∧ ba < V.heap.size from ⟨hg_bx, hg_bg, hg_br, hg_ba, HB_ba.out.1⟩)
    clear hg_bx hg_bg hg_br hg_ba
    have x_i : V.cell? ⟨bx, 12, none⟩ = some (.int .i64 (d.i : Int)) := HB_bx.out.2.2 12 _ rfl
    have x_g := HB_bx.out.1
    have x_es : V.cell? ⟨bx, 11, none⟩ = some (.slice (some ⟨eb, eo, none⟩) n ec) := by rw [← HVE.out]; exact HB_bx.out.2.2 11 _ rfl
    obtain ⟨c_g, c_loc, c_val, c_ver, c_ref, c_new, c_wr⟩ := HC.out V HE_V.out
    go_upto_region 2 with fail
    generalize hV_ : World.alloc _ _ = U
    have HE_U := hid (show Ext V U by rw [← hV_]; exact exP)
    have HB_be := hid (show Blk U (V.heap.size) [.int .i64 d.cur.loc, .int .i64 d.cur.val, .int .u32 d.cur.ver, .int .u32 d.cur.ref, .int .i64 d.cur.new, .bool true] by rw [← hV_]; exact bkP)
    clear hV_
    obtain ⟨be, hg_be⟩ : ∃ g, g = V.heap.size := ⟨_, rfl⟩
    simp only [← hg_be] at HB_be ⊢
    have HN_U := hid (show be = V.heap.size ∧ be < U.heap.size from ⟨hg_be, HB_be.out.1⟩)
    clear hg_be
    clear x_i x_g x_es c_g c_loc c_val c_ver c_ref c_new c_wr hlt
    have hVU := HE_U.out
    have HE_VU := hid (HE_V.out.trans hVU)
    have HB_bx2 := hid (HB_bx.out.of hVU)
    have HB_bg2 := hid (HB_bg.out.of hVU)
    have HB_br2 := hid (HB_br.out.of hVU)
    have HB_ba2 := hid (HB_ba.out.of hVU)
    clear HB_bx HB_bg HB_br HB_ba
    have HB_bx := HB_bx2
    have HB_bg := HB_bg2
    have HB_br := HB_br2
    have HB_ba := HB_ba2
    clear HB_bx2 HB_bg2 HB_br2 HB_ba2
    clear hVU
    have w0 : U.cell? ⟨bg, 0, none⟩ = some (.int .i64 g1) := HB_bg.out.2.2 0 _ rfl
    have w1 : U.cell? ⟨bg, 1, none⟩ = some (.int .u32 g2) := HB_bg.out.2.2 1 _ rfl
    have w2 : U.cell? ⟨bg, 2, none⟩ = some (.int .u32 d.ref) := HB_bg.out.2.2 2 _ rfl
    have wg := HB_bg.out.1
    have x_ref : U.cell? ⟨bx, 3, none⟩ = some (.int .u32 d.ref) := HB_bx.out.2.2 3 _ rfl
    have x_vd : U.cell? ⟨bx, 13, none⟩ = some (.int .i64 d.vd) := HB_bx.out.2.2 13 _ rfl
    have x_g := HB_bx.out.1
    have z0 := (HB_be.out).2.2 0 _ rfl
    have z1 := (HB_be.out).2.2 1 _ rfl
    have z2 := (HB_be.out).2.2 2 _ rfl
    have z3 := (HB_be.out).2.2 3 _ rfl
    have z4 := (HB_be.out).2.2 4 _ rfl
    have z5 := (HB_be.out).2.2 5 _ rfl
    have zf := (HB_be.out).2.1
    have zg := (HB_be.out).1
    go_wp2_with fail
    refine (wrel_r g1 g2 d.ref d.cur.new (decide (d.vd = 1)) HG2.out HG3.out HRl.out U).mono ?_
    rintro e w4 ⟨rfl, hx_⟩
    clear w0 w1 w2 wg
    clear x_ref x_vd x_g z0 z1 z2 z3 z4 z5 zf zg
    have HBe4 := hid (HB_be.out.of hx_)
    have HE_w4 := hid (HE_VU.out.trans hx_)
    have HB_bx2 := hid (HB_bx.out.of hx_)
    have HB_bg2 := hid (HB_bg.out.of hx_)
    have HB_br2 := hid (HB_br.out.of hx_)
    have HB_ba2 := hid (HB_ba.out.of hx_)
    clear HB_bx HB_bg HB_br HB_ba
    have HB_bx := HB_bx2
    have HB_bg := HB_bg2
    have HB_br := HB_br2
    have HB_ba := HB_ba2
    clear HB_bx2 HB_bg2 HB_br2 HB_ba2
    clear hx_
    go_upto_region 4 with fail
    generalize hV_ : World.alloc _ _ = Z
    have HE_Z := hid (show Ext w4 Z by rw [← hV_]; exact exP)
    have HB_bq := hid (show Blk Z (w4.heap.size) [.int .i64 r1, .int .u32 r2, .int .u32 r3] by rw [← hV_]; exact bkP)
    clear hV_
    obtain ⟨bq, hg_bq⟩ : ∃ g, g = w4.heap.size := ⟨_, rfl⟩
    simp only [← hg_bq] at HB_bq ⊢
    have HN_Z := hid (show bq = w4.heap.size ∧ bq < Z.heap.size from ⟨hg_bq, HB_bq.out.1⟩)
    clear hg_bq
    have hVZ := HE_Z.out
    have HBeZ := hid (HBe4.out.of hVZ)
    have HE_wZ := hid (HE_w4.out.trans hVZ)
    have HB_bx2 := hid (HB_bx.out.of hVZ)
    have HB_bg2 := hid (HB_bg.out.of hVZ)
    have HB_br2 := hid (HB_br.out.of hVZ)
    have HB_ba2 := hid (HB_ba.out.of hVZ)
    clear HB_bx HB_bg HB_br HB_ba
    have HB_bx := HB_bx2
    have HB_bg := HB_bg2
    have HB_br := HB_br2
    have HB_ba := HB_ba2
    clear HB_bx2 HB_bg2 HB_br2 HB_ba2
    clear hVZ
    have w0 : Z.cell? ⟨bg, 0, none⟩ = some (.int .i64 g1) := HB_bg.out.2.2 0 _ rfl
    have w1 : Z.cell? ⟨bg, 1, none⟩ = some (.int .u32 g2) := HB_bg.out.2.2 1 _ rfl
    have w2 : Z.cell? ⟨bg, 2, none⟩ = some (.int .u32 d.ref) := HB_bg.out.2.2 2 _ rfl
    have wg := HB_bg.out.1
    have z0 := (HBeZ.out).2.2 0 _ rfl
    have z1 := (HBeZ.out).2.2 1 _ rfl
    have z2 := (HBeZ.out).2.2 2 _ rfl
    have z3 := (HBeZ.out).2.2 3 _ rfl
    have z4 := (HBeZ.out).2.2 4 _ rfl
    have z5 := (HBeZ.out).2.2 5 _ rfl
    have zf := (HBeZ.out).2.1
    have zg := (HBeZ.out).1
    have q0 := (HB_bq.out).2.2 0 _ rfl
    have q1 := (HB_bq.out).2.2 1 _ rfl
    have q2 := (HB_bq.out).2.2 2 _ rfl
    have qf := (HB_bq.out).2.1
    have qg := (HB_bq.out).1
    have x_g := HB_bx.out.1
    go_wp2_with (first | (refine ld_blk rfl 106 _ rfl rfl _ HB_bx.out Tryz.underlying106 rfl Tryz.hInfo ?_))
    clear w0 w1 w2 wg
    clear z0 z1 z2 z3 z4 z5 zf zg q0 q1 q2 qf qg x_g
    refine (hp_ask HO.out d (swapA d.cur.loc (g1, g2, d.ref) (r1, r2, r3)) 16 Z).mono ?_
    rintro e w1 ⟨rfl, he⟩
    have HE1 := hid (HE_wZ.out.trans he)
    have HBr := hid (HB_br.out.of he)
    have HBa := hid (HB_ba.out.of he)
    clear he
    go_wp2_with (first | (refine st_blk rfl 106 _ _ rfl rfl rfl HBr.out rfl Tryz.hInfo (Hr.One.all (hR_one HO.out _)) ?_; intro W1 hb1 hg1) | (refine st_blk rfl 46 _ _ rfl rfl rfl (HBa.out.grl hg1 (by have h1 := HN_V.out; simp; omega)) rfl Tryz.aInfo (a8E_one' _) ?_; intro W2 hb2 hg2))
    exact bodyPost_ret (res3 Tryz.results172 rfl rfl rfl (hb1.grl hg2 (by have h1 := HN_V.out; simp; omega)) hb2 Tryz.underlying106 rfl Tryz.hInfo Tryz.underlying46 rfl Tryz.aInfo) rfl ⟨rfl, (HE1.out.grl hg1 (by have h1 := HN_V.out; simp; omega)).grl hg2 (by have h1 := HN_V.out; simp; omega)⟩
   ·have HR := hid (show hpFound X.dur d (g1, g2, d.ref) = hpFreed X.dur d by unfold hpFound; dsimp only; rw [HWb.out, ← HRl.out]; exact if_neg (fun h => h2 h.2))
    rw [HR.out]
    have hb2 : (re == 0) = false := beq_eq_false_iff_ne.2 h2
    have hwr2 : d.cur.wr = true := hwr
    clear hr hwr h2
    go_enter Tryz.func172, Tryz.ntmps172
    go_upto_region 1 with fail
    generalize hV_ : World.alloc _ _ = V
    have HE_V := hid (show Ext w V by rw [← hV_]; exact exP)
    have HB_bx := hid (show Blk V (w.heap.size) (hL (hR X d)) by rw [← hV_]; exact bkP)
    have HB_bg := hid (show Blk V (w.heap.size + 1) (gtE ((g1, g2, d.ref), gk)) by rw [← hV_]; exact bkP)
    have HB_br := hid (show Blk V (w.heap.size + 1 + 1) zH by rw [← hV_]; exact bkP)
    have HB_ba := hid (show Blk V (w.heap.size + 1 + 1 + 1) [.int .i64 0, .int .i64 0, .int .i64 0, .int .u32 0, .int .u32 0, .int .i64 0, .int .u32 0, .int .u32 0] by rw [← hV_]; exact bkP)
    clear hV_
    obtain ⟨ba, hg_ba⟩ : ∃ g, g = w.heap.size + 1 + 1 + 1 := ⟨_, rfl⟩
    simp only [← hg_ba] at HB_ba ⊢
    obtain ⟨br, hg_br⟩ : ∃ g, g = w.heap.size + 1 + 1 := ⟨_, rfl⟩
    simp only [← hg_br] at HB_br ⊢
    obtain ⟨bg, hg_bg⟩ : ∃ g, g = w.heap.size + 1 := ⟨_, rfl⟩
    simp only [← hg_bg] at HB_bg ⊢
    obtain ⟨bx, hg_bx⟩ : ∃ g, g = w.heap.size := ⟨_, rfl⟩
    simp only [← hg_bx] at HB_bx ⊢
    have HN_V := hid (show bx = w.heap.size ∧ bg = w.heap.size + 1 ∧ br = w.heap.size + 1 + 1 ∧ ba = w.heap.size + 1 + 1 + 1 ∧ ba < V.heap.size from ⟨hg_bx, hg_bg, hg_br, hg_ba, HB_ba.out.1⟩)
    clear hg_bx hg_bg hg_br hg_ba
    have x_i : V.cell? ⟨bx, 12, none⟩ = some (.int .i64 (d.i : Int)) := HB_bx.out.2.2 12 _ rfl
    have x_g := HB_bx.out.1
    have x_es : V.cell? ⟨bx, 11, none⟩ = some (.slice (some ⟨eb, eo, none⟩) n ec) := by rw [← HVE.out]; exact HB_bx.out.2.2 11 _ rfl
    obtain ⟨c_g, c_loc, c_val, c_ver, c_ref, c_new, c_wr⟩ := HC.out V HE_V.out
    go_upto_region 2 with fail
    generalize hV_ : World.alloc _ _ = U
    have HE_U := hid (show Ext V U by rw [← hV_]; exact exP)
    have HB_be := hid (show Blk U (V.heap.size) [.int .i64 d.cur.loc, .int .i64 d.cur.val, .int .u32 d.cur.ver, .int .u32 d.cur.ref, .int .i64 d.cur.new, .bool true] by rw [← hV_]; exact bkP)
    clear hV_
    obtain ⟨be, hg_be⟩ : ∃ g, g = V.heap.size := ⟨_, rfl⟩
    simp only [← hg_be] at HB_be ⊢
    have HN_U := hid (show be = V.heap.size ∧ be < U.heap.size from ⟨hg_be, HB_be.out.1⟩)
    clear hg_be
    clear x_i x_g x_es c_g c_loc c_val c_ver c_ref c_new c_wr hlt
    have hVU := HE_U.out
    have HE_VU := hid (HE_V.out.trans hVU)
    have HB_bx2 := hid (HB_bx.out.of hVU)
    have HB_bg2 := hid (HB_bg.out.of hVU)
    have HB_br2 := hid (HB_br.out.of hVU)
    have HB_ba2 := hid (HB_ba.out.of hVU)
    clear HB_bx HB_bg HB_br HB_ba
    have HB_bx := HB_bx2
    have HB_bg := HB_bg2
    have HB_br := HB_br2
    have HB_ba := HB_ba2
    clear HB_bx2 HB_bg2 HB_br2 HB_ba2
    clear hVU
    have w0 : U.cell? ⟨bg, 0, none⟩ = some (.int .i64 g1) := HB_bg.out.2.2 0 _ rfl
    have w1 : U.cell? ⟨bg, 1, none⟩ = some (.int .u32 g2) := HB_bg.out.2.2 1 _ rfl
    have w2 : U.cell? ⟨bg, 2, none⟩ = some (.int .u32 d.ref) := HB_bg.out.2.2 2 _ rfl
    have wg := HB_bg.out.1
    have x_ref : U.cell? ⟨bx, 3, none⟩ = some (.int .u32 d.ref) := HB_bx.out.2.2 3 _ rfl
    have x_vd : U.cell? ⟨bx, 13, none⟩ = some (.int .i64 d.vd) := HB_bx.out.2.2 13 _ rfl
    have x_g := HB_bx.out.1
    have z0 := (HB_be.out).2.2 0 _ rfl
    have z1 := (HB_be.out).2.2 1 _ rfl
    have z2 := (HB_be.out).2.2 2 _ rfl
    have z3 := (HB_be.out).2.2 3 _ rfl
    have z4 := (HB_be.out).2.2 4 _ rfl
    have z5 := (HB_be.out).2.2 5 _ rfl
    have zf := (HB_be.out).2.1
    have zg := (HB_be.out).1
    go_wp2_with fail
    refine (wrel_r g1 g2 d.ref d.cur.new (decide (d.vd = 1)) HG2.out HG3.out HRl.out U).mono ?_
    rintro e w4 ⟨rfl, hx_⟩
    clear w0 w1 w2 wg
    clear x_ref x_vd x_g z0 z1 z2 z3 z4 z5 zf zg
    have HBe4 := hid (HB_be.out.of hx_)
    have HE_w4 := hid (HE_VU.out.trans hx_)
    have HB_bx2 := hid (HB_bx.out.of hx_)
    have HB_bg2 := hid (HB_bg.out.of hx_)
    have HB_br2 := hid (HB_br.out.of hx_)
    have HB_ba2 := hid (HB_ba.out.of hx_)
    clear HB_bx HB_bg HB_br HB_ba
    have HB_bx := HB_bx2
    have HB_bg := HB_bg2
    have HB_br := HB_br2
    have HB_ba := HB_ba2
    clear HB_bx2 HB_bg2 HB_br2 HB_ba2
    clear hx_
    go_upto_region 4 with fail
    generalize hV_ : World.alloc _ _ = Z
    have HE_Z := hid (show Ext w4 Z by rw [← hV_]; exact exP)
    have HB_bq := hid (show Blk Z (w4.heap.size) [.int .i64 r1, .int .u32 r2, .int .u32 r3] by rw [← hV_]; exact bkP)
    clear hV_
    obtain ⟨bq, hg_bq⟩ : ∃ g, g = w4.heap.size := ⟨_, rfl⟩
    simp only [← hg_bq] at HB_bq ⊢
    have HN_Z := hid (show bq = w4.heap.size ∧ bq < Z.heap.size from ⟨hg_bq, HB_bq.out.1⟩)
    clear hg_bq
    have hVZ := HE_Z.out
    have HBeZ := hid (HBe4.out.of hVZ)
    have HE_wZ := hid (HE_w4.out.trans hVZ)
    have HB_bx2 := hid (HB_bx.out.of hVZ)
    have HB_bg2 := hid (HB_bg.out.of hVZ)
    have HB_br2 := hid (HB_br.out.of hVZ)
    have HB_ba2 := hid (HB_ba.out.of hVZ)
    clear HB_bx HB_bg HB_br HB_ba
    have HB_bx := HB_bx2
    have HB_bg := HB_bg2
    have HB_br := HB_br2
    have HB_ba := HB_ba2
    clear HB_bx2 HB_bg2 HB_br2 HB_ba2
    clear hVZ
    have HEU := hid (show Sl Z 6 enE X.es d.es from HEs.out.of enE_len HE_wZ.out)
    go_wp2_with (first | (refine ld_blk rfl 106 _ rfl rfl _ HB_bx.out Tryz.underlying106 rfl Tryz.hInfo ?_))
    refine (hp_freed HO.out d HDn.out HL.out HNi.out ((0, 0, 0), false) Z HEU.out).mono ?_
    rintro e w1 ⟨rfl, he⟩
    have HE1 := hid (HE_wZ.out.trans he)
    have HBr := hid (HB_br.out.of he)
    have HBa := hid (HB_ba.out.of he)
    clear he
    go_wp2_with (first | (refine st_blk rfl 106 _ _ rfl rfl rfl HBr.out rfl Tryz.hInfo (Hr.One.all (hR_one HO.out _)) ?_; intro W1 hb1 hg1) | (refine st_blk rfl 46 _ _ rfl rfl rfl (HBa.out.grl hg1 (by have h1 := HN_V.out; simp; omega)) rfl Tryz.aInfo (a8E_one' _) ?_; intro W2 hb2 hg2))
    exact bodyPost_ret (res3 Tryz.results172 rfl rfl rfl (hb1.grl hg2 (by have h1 := HN_V.out; simp; omega)) hb2 Tryz.underlying106 rfl Tryz.hInfo Tryz.underlying46 rfl Tryz.aInfo) rfl ⟨rfl, (HE1.out.grl hg1 (by have h1 := HN_V.out; simp; omega)).grl hg2 (by have h1 := HN_V.out; simp; omega)⟩
 ·have HR := hid (show hpFound X.dur d (g1, g2, g3) = hpFreed X.dur d by unfold hpFound; rw [if_neg (fun h => h1 h.1)])
  rw [HR.out]
  have hb1 : (g3 == d.ref) = false := beq_eq_false_iff_ne.2 h1
  clear h1
  go_enter Tryz.func172, Tryz.ntmps172
  go_upto_region 1 with fail
  generalize hV_ : World.alloc _ _ = V
  have HE_V := hid (show Ext w V by rw [← hV_]; exact exP)
  have HB_bx := hid (show Blk V (w.heap.size) (hL (hR X d)) by rw [← hV_]; exact bkP)
  have HB_bg := hid (show Blk V (w.heap.size + 1) (gtE ((g1, g2, g3), gk)) by rw [← hV_]; exact bkP)
  have HB_br := hid (show Blk V (w.heap.size + 1 + 1) zH by rw [← hV_]; exact bkP)
  have HB_ba := hid (show Blk V (w.heap.size + 1 + 1 + 1) [.int .i64 0, .int .i64 0, .int .i64 0, .int .u32 0, .int .u32 0, .int .i64 0, .int .u32 0, .int .u32 0] by rw [← hV_]; exact bkP)
  clear hV_
  obtain ⟨ba, hg_ba⟩ : ∃ g, g = w.heap.size + 1 + 1 + 1 := ⟨_, rfl⟩
  simp only [← hg_ba] at HB_ba ⊢
  obtain ⟨br, hg_br⟩ : ∃ g, g = w.heap.size + 1 + 1 := ⟨_, rfl⟩
  simp only [← hg_br] at HB_br ⊢
  obtain ⟨bg, hg_bg⟩ : ∃ g, g = w.heap.size + 1 := ⟨_, rfl⟩
  simp only [← hg_bg] at HB_bg ⊢
  obtain ⟨bx, hg_bx⟩ : ∃ g, g = w.heap.size := ⟨_, rfl⟩
  simp only [← hg_bx] at HB_bx ⊢
  have HN_V := hid (show bx = w.heap.size ∧ bg = w.heap.size + 1 ∧ br = w.heap.size + 1 + 1 ∧ ba = w.heap.size + 1 + 1 + 1 ∧ ba < V.heap.size from ⟨hg_bx, hg_bg, hg_br, hg_ba, HB_ba.out.1⟩)
  clear hg_bx hg_bg hg_br hg_ba
  have x_i : V.cell? ⟨bx, 12, none⟩ = some (.int .i64 (d.i : Int)) := HB_bx.out.2.2 12 _ rfl
  have x_g := HB_bx.out.1
  have x_es : V.cell? ⟨bx, 11, none⟩ = some (.slice (some ⟨eb, eo, none⟩) n ec) := by rw [← HVE.out]; exact HB_bx.out.2.2 11 _ rfl
  obtain ⟨c_g, c_loc, c_val, c_ver, c_ref, c_new, c_wr⟩ := HC.out V HE_V.out
  go_upto_region 2 with fail
  generalize hV_ : World.alloc _ _ = U
  have HE_U := hid (show Ext V U by rw [← hV_]; exact exP)
  have HB_be := hid (show Blk U (V.heap.size) [.int .i64 d.cur.loc, .int .i64 d.cur.val, .int .u32 d.cur.ver, .int .u32 d.cur.ref, .int .i64 d.cur.new, .bool d.cur.wr] by rw [← hV_]; exact bkP)
  clear hV_
  obtain ⟨be, hg_be⟩ : ∃ g, g = V.heap.size := ⟨_, rfl⟩
  simp only [← hg_be] at HB_be ⊢
  have HN_U := hid (show be = V.heap.size ∧ be < U.heap.size from ⟨hg_be, HB_be.out.1⟩)
  clear hg_be
  clear x_i x_g x_es c_g c_loc c_val c_ver c_ref c_new c_wr hlt
  have hVU := HE_U.out
  have HE_VU := hid (HE_V.out.trans hVU)
  have HB_bx2 := hid (HB_bx.out.of hVU)
  have HB_bg2 := hid (HB_bg.out.of hVU)
  have HB_br2 := hid (HB_br.out.of hVU)
  have HB_ba2 := hid (HB_ba.out.of hVU)
  clear HB_bx HB_bg HB_br HB_ba
  have HB_bx := HB_bx2
  have HB_bg := HB_bg2
  have HB_br := HB_br2
  have HB_ba := HB_ba2
  clear HB_bx2 HB_bg2 HB_br2 HB_ba2
  clear hVU
  have w0 : U.cell? ⟨bg, 0, none⟩ = some (.int .i64 g1) := HB_bg.out.2.2 0 _ rfl
  have w1 : U.cell? ⟨bg, 1, none⟩ = some (.int .u32 g2) := HB_bg.out.2.2 1 _ rfl
  have w2 : U.cell? ⟨bg, 2, none⟩ = some (.int .u32 g3) := HB_bg.out.2.2 2 _ rfl
  have wg := HB_bg.out.1
  have x_ref : U.cell? ⟨bx, 3, none⟩ = some (.int .u32 d.ref) := HB_bx.out.2.2 3 _ rfl
  have x_g := HB_bx.out.1
  go_wp2_with (first | (refine ld_blk rfl 106 _ rfl rfl _ HB_bx.out Tryz.underlying106 rfl Tryz.hInfo ?_))
  clear w0 w1 w2 wg
  clear x_ref x_g
  have HEU := hid (show Sl U 6 enE X.es d.es from HEs.out.of enE_len HE_VU.out)
  refine (hp_freed HO.out d HDn.out HL.out HNi.out ((0, 0, 0), false) U HEU.out).mono ?_
  rintro e w1 ⟨rfl, he⟩
  have HE1 := hid (HE_VU.out.trans he)
  have HBr := hid (HB_br.out.of he)
  have HBa := hid (HB_ba.out.of he)
  clear he
  go_wp2_with (first | (refine st_blk rfl 106 _ _ rfl rfl rfl HBr.out rfl Tryz.hInfo (Hr.One.all (hR_one HO.out _)) ?_; intro W1 hb1 hg1) | (refine st_blk rfl 46 _ _ rfl rfl rfl (HBa.out.grl hg1 (by have h1 := HN_V.out; simp; omega)) rfl Tryz.aInfo (a8E_one' _) ?_; intro W2 hb2 hg2))
  exact bodyPost_ret (res3 Tryz.results172 rfl rfl rfl (hb1.grl hg2 (by have h1 := HN_V.out; simp; omega)) hb2 Tryz.underlying106 rfl Tryz.hInfo Tryz.underlying46 rfl Tryz.aInfo) rfl ⟨rfl, (HE1.out.grl hg1 (by have h1 := HN_V.out; simp; omega)).grl hg2 (by have h1 := HN_V.out; simp; omega)⟩
end Go.Proofs.YtiacdohaiidehaaGreatDoor
