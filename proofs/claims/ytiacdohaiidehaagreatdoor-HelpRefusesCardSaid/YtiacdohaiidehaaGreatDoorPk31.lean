/- Walks of package help: held, end, release, settle, flush, decide. -/
import Derived.Test.YtiacdohaiidehaaGreatDoorPk30
namespace Go.Proofs.YtiacdohaiidehaaGreatDoor
set_option linter.unusedSimpArgs false
set_option linter.unusedVariables false
open Go.RowKit
theorem hp_plain' {X : HX} (d : Hd) (w : World) (he : Sl w 6 enE X.es d.es) (hi : d.i < d.es.length) : Calls Tryz.prog 150 #[.agg (hL (hR X d)).toArray] w fun e w' => e = .returned (.agg #[.int .i64 d.cur.val, .int .u32 d.cur.ver, .int .u32 d.cur.ref]) ∧ Ext w w' := hp_plain d w he hi
set_option maxRecDepth 100000 in
set_option maxHeartbeats 1000000 in
theorem hp_held {X : HX} (d : Hd) (w : World) (he : Sl w 6 enE X.es d.es) (hi : d.i < d.es.length) : Calls Tryz.prog 151 #[.agg (hL (hR X d)).toArray] w fun e w' => e = .returned (.agg (wdE (hpHeld d)).toArray) ∧ Ext w w' := by
 have HEs := hid he
 have HI := hid hi
 clear he hi
 go_enter Tryz.func151, Tryz.ntmps151
 go_upto_region 1 with fail
 generalize hV_ : World.alloc _ _ = V
 have HE_V := hid (show Ext w V by rw [← hV_]; exact exP)
 have HB_bx := hid (show Blk V (w.heap.size) (hL (hR X d)) by rw [← hV_]; exact bkP)
 have HB_bv := hid (show Blk V (w.heap.size + 1) [.int .i64 0, .int .u32 0, .int .u32 0] by rw [← hV_]; exact bkP)
 clear hV_
 obtain ⟨bv, hg_bv⟩ : ∃ g, g = w.heap.size + 1 := ⟨_, rfl⟩
 simp only [← hg_bv] at HB_bv ⊢
 obtain ⟨bx, hg_bx⟩ : ∃ g, g = w.heap.size := ⟨_, rfl⟩
 simp only [← hg_bx] at HB_bx ⊢
 have HN_V := hid (show bx = w.heap.size ∧ bv = w.heap.size + 1 ∧ bv < V.heap.size from ⟨hg_bx, hg_bv, HB_bv.out.1⟩)
 clear hg_bx hg_bv
 go_wp2_with (first | (refine ld_blk rfl 106 _ rfl rfl _ HB_bx.out Tryz.underlying106 rfl Tryz.hInfo ?_))
 refine (hp_plain' d V (HEs.out.of enE_len HE_V.out) HI.out).mono ?_
 rintro e w1 ⟨rfl, he⟩
 have HE1 := hid (HE_V.out.trans he)
 have HX1 := hid (HB_bx.out.of he)
 have HV1 := hid (HB_bv.out.of he)
 clear he
 go_upto_region 2 with fail
 generalize hV_ : World.alloc _ _ = U
 have HE_U := hid (show Ext w1 U by rw [← hV_]; exact exP)
 have HB_bz := hid (show Blk U (w1.heap.size) [.int .i64 d.cur.val, .int .u32 d.cur.ver, .int .u32 d.cur.ref] by rw [← hV_]; exact bkP)
 clear hV_
 obtain ⟨bz, hg_bz⟩ : ∃ g, g = w1.heap.size := ⟨_, rfl⟩
 simp only [← hg_bz] at HB_bz ⊢
 have HN_U := hid (show bz = w1.heap.size ∧ bz < U.heap.size from ⟨hg_bz, HB_bz.out.1⟩)
 clear hg_bz
 have HNz := hid (show bz ≠ bv ∧ bx ≠ bz ∧ w.heap.size ≤ bz ∧ w.heap.size ≤ bv by
  have h1 := HN_U.out; have h2 := HV1.out.1; have h3 := HX1.out.1; have h4 := HN_V.out; have h5 := HE1.out.size; omega)
 have x_ref : U.cell? ⟨bx, 3, none⟩ = some (.int .u32 d.ref) := (HX1.out.of HE_U.out).2.2 3 _ rfl
 have x_g := (HX1.out.of HE_U.out).1
 have z0 := (HB_bz.out).2.2 0 _ rfl
 have z1 := (HB_bz.out).2.2 1 _ rfl
 have z2 := (HB_bz.out).2.2 2 _ rfl
 have zf := (HB_bz.out).2.1
 have zg := (HB_bz.out).1
 go_upto_region 3 with fail
 generalize hZ_ : World.setCell _ _ _ = Z
 have HGZ := hid (show GrL [bz] U Z by rw [← hZ_]; exact glP)
 have HBZ := hid (show Blk Z bz (wdE (hpHeld d)) by rw [← hZ_]; exact HB_bz.out.set 2 (by simp) _)
 have HVZ := hid ((HV1.out.of HE_U.out).grl HGZ.out (by simp; exact fun h => HNz.out.1 h.symm))
 have HEZ := hid ((HE1.out.trans HE_U.out).grl HGZ.out (by simp; exact HNz.out.2.2.1))
 clear hZ_ x_ref x_g z0 z1 z2 zf zg
 go_wp2_with (first | (refine ld_blk rfl 44 _ rfl rfl _ HBZ.out Tryz.underlying44 rfl Tryz.wInfo ?_) | (refine st_blk rfl 44 _ _ rfl rfl rfl HVZ.out rfl Tryz.wInfo (wdE_onh _) ?_; intro W1 hb1 hg1))
 exact bodyPost_ret (res1 Tryz.results151 rfl hb1 Tryz.underlying44 rfl Tryz.wInfo) rfl ⟨rfl, HEZ.out.grl hg1 (by simp; exact HNz.out.2.2.2)⟩
set_option maxRecDepth 100000 in
set_option maxHeartbeats 1000000 in
theorem hp_end {X : HX} (ho : X.One) (d : Hd) (v : Int) (w : World) :
 Calls Tryz.prog 88 #[.agg (hL (hR X d)).toArray, .int .i64 v] w fun e w' => e = .returned (.tuple #[.agg (hL (hR { X with inn := .nilIface } (hpEnd d v).1)).toArray, .agg (a8E (hpEnd d v).2.1).toArray, .bool (hpEnd d v).2.2]) ∧ Ext w w' := by
 have HO := hid ho
 clear ho
 go_enter Tryz.func88, Tryz.ntmps88
 go_upto_region 1 with fail
 generalize hV_ : World.alloc _ _ = V
 have HE_V := hid (show Ext w V by rw [← hV_]; exact exP)
 have HB_bx := hid (show Blk V (w.heap.size) (hL (hR X d)) by rw [← hV_]; exact bkP)
 have HB_br := hid (show Blk V (w.heap.size + 1) zH by rw [← hV_]; exact bkP)
 have HB_ba := hid (show Blk V (w.heap.size + 1 + 1) [.int .i64 0, .int .i64 0, .int .i64 0, .int .u32 0, .int .u32 0, .int .i64 0, .int .u32 0, .int .u32 0] by rw [← hV_]; exact bkP)
 clear hV_
 obtain ⟨ba, hg_ba⟩ : ∃ g, g = w.heap.size + 1 + 1 := ⟨_, rfl⟩
 simp only [← hg_ba] at HB_ba ⊢
 obtain ⟨br, hg_br⟩ : ∃ g, g = w.heap.size + 1 := ⟨_, rfl⟩
 simp only [← hg_br] at HB_br ⊢
 obtain ⟨bx, hg_bx⟩ : ∃ g, g = w.heap.size := ⟨_, rfl⟩
 simp only [← hg_bx] at HB_bx ⊢
 have HN_V := hid (show bx = w.heap.size ∧ br = w.heap.size + 1 ∧ ba = w.heap.size + 1 + 1 ∧ ba < V.heap.size from ⟨hg_bx, hg_br, hg_ba, HB_ba.out.1⟩)
 clear hg_bx hg_br hg_ba
 have h0 := (HB_bx.out).2.2 0 _ rfl
 have h1 := (HB_bx.out).2.2 1 _ rfl
 have h2 := (HB_bx.out).2.2 2 _ rfl
 have h3 := (HB_bx.out).2.2 3 _ rfl
 have h4 := (HB_bx.out).2.2 4 _ rfl
 have h5 := (HB_bx.out).2.2 5 _ rfl
 have h6 := (HB_bx.out).2.2 6 _ rfl
 have h7 := (HB_bx.out).2.2 7 _ rfl
 have h8 := (HB_bx.out).2.2 8 _ rfl
 have h9 := (HB_bx.out).2.2 9 _ rfl
 have h10 := (HB_bx.out).2.2 10 _ rfl
 have h11 := (HB_bx.out).2.2 11 _ rfl
 have h12 := (HB_bx.out).2.2 12 _ rfl
 have h13 := (HB_bx.out).2.2 13 _ rfl
 have h14 := (HB_bx.out).2.2 14 _ rfl
 have h15 := (HB_bx.out).2.2 15 _ rfl
 have h16 := (HB_bx.out).2.2 16 _ rfl
 have h17 := (HB_bx.out).2.2 17 _ rfl
 have h18 := (HB_bx.out).2.2 18 _ rfl
 have h19 := (HB_bx.out).2.2 19 _ rfl
 have h20 := (HB_bx.out).2.2 20 _ rfl
 have hf := (HB_bx.out).2.1
 have hg := (HB_bx.out).1
 go_upto_region 2 with fail
 generalize hZ_ : World.setCell _ _ _ = Z
 have HGZ := hid (show GrL [bx] V Z by rw [← hZ_]; exact glP)
 have HBZ := hid (show Blk Z bx (hL (hR { X with inn := .nilIface } { d with ended := true, vd := v })) by rw [← hZ_]; exact ((HB_bx.out.set 18 (of_decide_eq_true rfl) _).set 13 (of_decide_eq_true rfl) _).set 17 (of_decide_eq_true rfl) _)
 clear hZ_ h0 h1 h2 h3 h4 h5 h6 h7 h8 h9 h10 h11 h12 h13 h14 h15 h16 h17 h18 h19 h20 hf hg
 have HBr := hid (HB_br.out.grl HGZ.out (by have h1 := HN_V.out; simp; omega))
 have HBa := hid (HB_ba.out.grl HGZ.out (by have h1 := HN_V.out; simp; omega))
 have HE1 := hid (HE_V.out.grl HGZ.out (by have h1 := HN_V.out; simp; omega))
 go_wp2_with (first | (refine ld_blk rfl 106 _ rfl rfl _ HBZ.out Tryz.underlying106 rfl Tryz.hInfo ?_) | (refine st_blk rfl 106 _ _ rfl rfl rfl HBr.out rfl Tryz.hInfo (Hr.One.all (hR_one (X := { X with inn := .nilIface }) ⟨HO.out.ws, HO.out.es, rfl⟩ _)) ?_; intro W1 hb1 hg1) | (refine st_blk rfl 46 _ _ rfl rfl (cs := a8E a8Z) rfl (HBa.out.grl hg1 (by have h1 := HN_V.out; simp; omega)) rfl Tryz.aInfo (a8E_one' _) ?_; intro W2 hb2 hg2))
 exact bodyPost_ret (res3 Tryz.results88 rfl rfl rfl (hb1.grl hg2 (by have h1 := HN_V.out; simp; omega)) hb2 Tryz.underlying106 rfl Tryz.hInfo Tryz.underlying46 rfl Tryz.aInfo) rfl ⟨rfl, (HE1.out.grl hg1 (by have h1 := HN_V.out; simp; omega)).grl hg2 (by have h1 := HN_V.out; simp; omega)⟩
set_option maxRecDepth 100000 in
set_option maxHeartbeats 1000000 in
theorem hp_release {X : HX} (ho : X.One) (d : Hd) (w : World) :
 Calls Tryz.prog 134 #[.agg (hL (hR X d)).toArray] w fun e w' => e = .returned (.tuple #[.agg (hL (hR X (hpRelease X.dur d).1)).toArray, .agg (a8E (hpRelease X.dur d).2.1).toArray, .bool (hpRelease X.dur d).2.2]) ∧ Ext w w' := by
 have HO := hid ho
 clear ho
 cases hdu : X.dur
 ·have HR := hid (show hpRelease false d = hpLook d 14 from rfl)
  rw [HR.out]
  go_enter Tryz.func134, Tryz.ntmps134
  go_upto_region 1 with fail
  generalize hV_ : World.alloc _ _ = V
  have HE_V := hid (show Ext w V by rw [← hV_]; exact exP)
  have HB_bx := hid (show Blk V (w.heap.size) (hL (hR X d)) by rw [← hV_]; exact bkP)
  have HB_br := hid (show Blk V (w.heap.size + 1) zH by rw [← hV_]; exact bkP)
  have HB_ba := hid (show Blk V (w.heap.size + 1 + 1) [.int .i64 0, .int .i64 0, .int .i64 0, .int .u32 0, .int .u32 0, .int .i64 0, .int .u32 0, .int .u32 0] by rw [← hV_]; exact bkP)
  clear hV_
  obtain ⟨ba, hg_ba⟩ : ∃ g, g = w.heap.size + 1 + 1 := ⟨_, rfl⟩
  simp only [← hg_ba] at HB_ba ⊢
  obtain ⟨br, hg_br⟩ : ∃ g, g = w.heap.size + 1 := ⟨_, rfl⟩
  simp only [← hg_br] at HB_br ⊢
  obtain ⟨bx, hg_bx⟩ : ∃ g, g = w.heap.size := ⟨_, rfl⟩
  simp only [← hg_bx] at HB_bx ⊢
  have HN_V := hid (show bx = w.heap.size ∧ br = w.heap.size + 1 ∧ ba = w.heap.size + 1 + 1 ∧ ba < V.heap.size from ⟨hg_bx, hg_br, hg_ba, HB_ba.out.1⟩)
  clear hg_bx hg_br hg_ba
  have x_dur : V.cell? ⟨bx, 8, none⟩ = some (.bool false) := by rw [← hdu]; exact HB_bx.out.2.2 8 _ rfl
  have x_at : V.cell? ⟨bx, 4, none⟩ = some (.int .i64 d.at_) := HB_bx.out.2.2 4 _ rfl
  have x_g := HB_bx.out.1
  clear hdu
  go_wp2_with (first | (refine ld_blk rfl 106 _ rfl rfl _ HB_bx.out Tryz.underlying106 rfl Tryz.hInfo ?_))
  clear x_dur x_at x_g
  refine (hp_look HO.out d 14 V).mono ?_
  rintro e w1 ⟨rfl, he⟩
  have HE1 := hid (HE_V.out.trans he)
  have HBr := hid (HB_br.out.of he)
  have HBa := hid (HB_ba.out.of he)
  clear he
  go_wp2_with (first | (refine st_blk rfl 106 _ _ rfl rfl rfl HBr.out rfl Tryz.hInfo (Hr.One.all (hR_one HO.out _)) ?_; intro W1 hb1 hg1) | (refine st_blk rfl 46 _ _ rfl rfl rfl (HBa.out.grl hg1 (by have h1 := HN_V.out; simp; omega)) rfl Tryz.aInfo (a8E_one' _) ?_; intro W2 hb2 hg2))
  exact bodyPost_ret (res3 Tryz.results134 rfl rfl rfl (hb1.grl hg2 (by have h1 := HN_V.out; simp; omega)) hb2 Tryz.underlying106 rfl Tryz.hInfo Tryz.underlying46 rfl Tryz.aInfo) rfl ⟨rfl, (HE1.out.grl hg1 (by have h1 := HN_V.out; simp; omega)).grl hg2 (by have h1 := HN_V.out; simp; omega)⟩
 ·have HR := hid (show hpRelease true d = hpAsk d (flushA d.at_) 12 from rfl)
  rw [HR.out]
  go_enter Tryz.func134, Tryz.ntmps134
  go_upto_region 1 with fail
  generalize hV_ : World.alloc _ _ = V
  have HE_V := hid (show Ext w V by rw [← hV_]; exact exP)
  have HB_bx := hid (show Blk V (w.heap.size) (hL (hR X d)) by rw [← hV_]; exact bkP)
  have HB_br := hid (show Blk V (w.heap.size + 1) zH by rw [← hV_]; exact bkP)
  have HB_ba := hid (show Blk V (w.heap.size + 1 + 1) [.int .i64 0, .int .i64 0, .int .i64 0, .int .u32 0, .int .u32 0, .int .i64 0, .int .u32 0, .int .u32 0] by rw [← hV_]; exact bkP)
  clear hV_
  obtain ⟨ba, hg_ba⟩ : ∃ g, g = w.heap.size + 1 + 1 := ⟨_, rfl⟩
  simp only [← hg_ba] at HB_ba ⊢
  obtain ⟨br, hg_br⟩ : ∃ g, g = w.heap.size + 1 := ⟨_, rfl⟩
  simp only [← hg_br] at HB_br ⊢
  obtain ⟨bx, hg_bx⟩ : ∃ g, g = w.heap.size := ⟨_, rfl⟩
  simp only [← hg_bx] at HB_bx ⊢
  have HN_V := hid (show bx = w.heap.size ∧ br = w.heap.size + 1 ∧ ba = w.heap.size + 1 + 1 ∧ ba < V.heap.size from ⟨hg_bx, hg_br, hg_ba, HB_ba.out.1⟩)
  clear hg_bx hg_br hg_ba
  have x_dur : V.cell? ⟨bx, 8, none⟩ = some (.bool true) := by rw [← hdu]; exact HB_bx.out.2.2 8 _ rfl
  have x_at : V.cell? ⟨bx, 4, none⟩ = some (.int .i64 d.at_) := HB_bx.out.2.2 4 _ rfl
  have x_g := HB_bx.out.1
  clear hdu
  go_wp2_with (first | (refine ld_blk rfl 106 _ rfl rfl _ HB_bx.out Tryz.underlying106 rfl Tryz.hInfo ?_))
  clear x_dur x_at x_g
  refine (hp_ask HO.out d (flushA d.at_) 12 V).mono ?_
  rintro e w1 ⟨rfl, he⟩
  have HE1 := hid (HE_V.out.trans he)
  have HBr := hid (HB_br.out.of he)
  have HBa := hid (HB_ba.out.of he)
  clear he
  go_wp2_with (first | (refine st_blk rfl 106 _ _ rfl rfl rfl HBr.out rfl Tryz.hInfo (Hr.One.all (hR_one HO.out _)) ?_; intro W1 hb1 hg1) | (refine st_blk rfl 46 _ _ rfl rfl rfl (HBa.out.grl hg1 (by have h1 := HN_V.out; simp; omega)) rfl Tryz.aInfo (a8E_one' _) ?_; intro W2 hb2 hg2))
  exact bodyPost_ret (res3 Tryz.results134 rfl rfl rfl (hb1.grl hg2 (by have h1 := HN_V.out; simp; omega)) hb2 Tryz.underlying106 rfl Tryz.hInfo Tryz.underlying46 rfl Tryz.aInfo) rfl ⟨rfl, (HE1.out.grl hg1 (by have h1 := HN_V.out; simp; omega)).grl hg2 (by have h1 := HN_V.out; simp; omega)⟩
set_option maxRecDepth 100000 in
set_option maxHeartbeats 1000000 in
theorem hp_settle {X : HX} (ho : X.One) (d : Hd) (hd : HdN d) (hv : d.vd = 1 ∨ d.vd = 2) (g : Gt) (w : World) :
 Calls Tryz.prog 166 #[.agg (hL (hR X d)).toArray, .agg (gtE g).toArray] w fun e w' => e = .returned (.tuple #[.agg (hL (hR X (hpSettle d).1)).toArray, .agg (a8E (hpSettle d).2.1).toArray, .bool (hpSettle d).2.2]) ∧ Ext w w' := by
 have HO := hid ho
 clear ho
 have HSq := hid (show 0 ≤ d.seq ∧ d.seq ≤ 4294967295 by have := hd.seq; omega)
 clear hd hv
 go_enter Tryz.func166, Tryz.ntmps166
 go_upto_region 1 with fail
 generalize hV_ : World.alloc _ _ = V
 have HE_V := hid (show Ext w V by rw [← hV_]; exact exP)
 have HB_bx := hid (show Blk V (w.heap.size) (hL (hR X d)) by rw [← hV_]; exact bkP)
 have HB_bg := hid (show Blk V (w.heap.size + 1) (gtE g) by rw [← hV_]; exact bkP)
 have HB_br := hid (show Blk V (w.heap.size + 1 + 1) zH by rw [← hV_]; exact bkP)
 have HB_ba := hid (show Blk V (w.heap.size + 1 + 1 + 1) [.int .i64 0, .int .i64 0, .int .i64 0, .int .u32 0, .int .u32 0, .int .i64 0, .int .u32 0, .int .u32 0] by rw [← hV_]; exact bkP)
 clear hV_
 obtain ⟨ba, hg_ba⟩ : ∃ g, g = w.heap.size + 1 + 1 + 1 := ⟨_, rfl⟩
 simp only [← hg_ba] at HB_ba ⊢
 obtain ⟨br, hg_br⟩ : ∃ g, g = w.heap.size + 1 + 1 := ⟨_, rfl⟩
 simp only [← hg_br] at HB_br ⊢
 obtain ⟨bg, hg_bg⟩ : ∃ g, g = w.heap.size + 1 := ⟨_, rfl⟩
 simp only [← hg_bg] at HB_bg ⊢
 obtain ⟨bx, hg_bx⟩ : ∃ g, g = w.heap.size := ⟨_, rfl⟩
 simp only [← hg_bx] at HB_bx ⊢
 have HN_V := hid (show bx = w.heap.size ∧ bg = w.heap.size + 1 ∧ br = w.heap.size + 1 + 1 ∧ ba = w.heap.size + 1 + 1 + 1 ∧ ba < V.heap.size from ⟨hg_bx, hg_bg, hg_br, hg_ba, HB_ba.out.1⟩)
 clear hg_bx hg_bg hg_br hg_ba
 have x_at : V.cell? ⟨bx, 4, none⟩ = some (.int .i64 d.at_) := HB_bx.out.2.2 4 _ rfl
 have x_seq : V.cell? ⟨bx, 6, none⟩ = some (.int .i64 d.seq) := HB_bx.out.2.2 6 _ rfl
 have x_vd : V.cell? ⟨bx, 13, none⟩ = some (.int .i64 d.vd) := HB_bx.out.2.2 13 _ rfl
 have x_g := HB_bx.out.1
 have HL_ := hid (fun w' (h : Ext V w') => (And.intro (Nat.lt_of_lt_of_le x_g h.size) (And.intro (h.cell x_at) (And.intro (h.cell x_seq) (h.cell x_vd)))))
 refine wp_region_facts [7, 8, 9, 10, 11, 12, 13, 14, 15, 16, 17, 18, 19, 20, 21, 22] [0, 1, 2, 3, 4, 5, 6, 7, 8, 9, 10, 11, 12, 13, 14, 15] rfl (fun w' => Ext V w') (fsAt [IsV (.agg (hL (hR X d)).toArray), IsV ?_, IsV ?_, IsV ?_, IsV ?_, IsV (.agg #[.int .i64 0, .int .u32 d.seq, .int .u32 0]), IsV ?_, IsV ?_, IsV ?_, IsV ?_, IsV (.agg #[.int .i64 d.vd, .int .u32 d.seq, .int .u32 0]), IsV ?_, IsV (.tuple #[.agg (hL (hR X (hpSettle d).1)).toArray, .agg (a8E (hpSettle d).2.1).toArray, .bool (hpSettle d).2.2]), IsV ?_, IsV ?_, IsV ?_]) (by kernel_rfl) (by kernel_rfl) ((Ext.refl _).drew) (fun w w' h he => h.trans he) (aC (fun _ _ _ h _ => h) (aC (fun _ _ _ h _ => h) (aC (fun _ _ _ h _ => h) (aC (fun _ _ _ h _ => h) (aC (fun _ _ _ h _ => h) (aC (fun _ _ _ h _ => h) (aC (fun _ _ _ h _ => h) (aC (fun _ _ _ h _ => h) (aC (fun _ _ _ h _ => h) (aC (fun _ _ _ h _ => h) (aC (fun _ _ _ h _ => h) (aC (fun _ _ _ h _ => h) (aC (fun _ _ _ h _ => h) (aC (fun _ _ _ h _ => h) (aC (fun _ _ _ h _ => h) (aC (fun _ _ _ h _ => h) (AllOn.nil))))))))))))))))) (aC ?_ (aC ?_ (aC ?_ (aC ?_ (aC ?_ (aC ?_ (aC ?_ (aC ?_ (aC ?_ (aC ?_ (aC ?_ (aC ?_ (aC ?_ (aC ?_ (aC ?_ (aC ?_ (AllOn.nil))))))))))))))))) ?_
 rotate_left 12
 ·intro A w cx hO hD
  have e2 := evO hO 2 rfl
  clear hD hO
  refine hdW rfl rfl ?_
  refine ld_op _ _ rfl ((ev_tm A 2).trans e2) _ (HB_bx.out.of cx) Tryz.underlying106 rfl Tryz.hInfo ?_
  exact ⟨_, rfl, Ext.refl _, rfl⟩
 ·intro A w cx hO hD
  have e2 := evO hO 2 rfl
  clear hD hO
  refine hdV rfl ?_ rfl rfl ?_ ?_
  rotate_left 1
  ·simp [go_sem, e2, cx, HL_.out w cx]
   try with_reducible rfl
  ·exact IsV.mk (w := w)
 ·intro A w cx hO hD
  have e8 := evD (hD 1 (by kernel_rfl) 8 rfl)
  clear hD hO
  refine hdV rfl ?_ rfl rfl ?_ ?_
  rotate_left 1
  ·simp [go_sem, e8, cx, HL_.out w cx]
   try with_reducible rfl
  ·exact IsV.mk (w := w)
 ·intro A w cx hO hD
  have e2 := evO hO 2 rfl
  clear hD hO
  refine hdV rfl ?_ rfl rfl ?_ ?_
  rotate_left 1
  ·simp [go_sem, e2, cx, HL_.out w cx]
   try with_reducible rfl
  ·exact IsV.mk (w := w)
 ·intro A w cx hO hD
  have e10 := evD (hD 3 (by kernel_rfl) 10 rfl)
  clear hD hO
  refine hdV rfl ?_ rfl rfl ?_ ?_
  rotate_left 1
  ·simp [go_sem, e10, cx, HL_.out w cx]
   try with_reducible rfl
  ·exact IsV.mk (w := w)
 ·intro A w cx hO hD
  have e11 := evD (hD 4 (by kernel_rfl) 11 rfl)
  clear hD hO
  refine hdW rfl rfl ?_
  simp [go_sem, e11]
  refine (status_any 0 d.seq HSq.out.1 HSq.out.2 _).mono ?_
  rintro e w' ⟨rfl, hx_⟩
  exact ⟨_, rfl, hx_, rfl⟩
 ·intro A w cx hO hD
  have e2 := evO hO 2 rfl
  clear hD hO
  refine hdV rfl ?_ rfl rfl ?_ ?_
  rotate_left 1
  ·simp [go_sem, e2, cx, HL_.out w cx]
   try with_reducible rfl
  ·exact IsV.mk (w := w)
 ·intro A w cx hO hD
  have e13 := evD (hD 6 (by kernel_rfl) 13 rfl)
  clear hD hO
  refine hdV rfl ?_ rfl rfl ?_ ?_
  rotate_left 1
  ·simp [go_sem, e13, cx, HL_.out w cx]
   try with_reducible rfl
  ·exact IsV.mk (w := w)
 ·intro A w cx hO hD
  have e2 := evO hO 2 rfl
  clear hD hO
  refine hdV rfl ?_ rfl rfl ?_ ?_
  rotate_left 1
  ·simp [go_sem, e2, cx, HL_.out w cx]
   try with_reducible rfl
  ·exact IsV.mk (w := w)
 ·intro A w cx hO hD
  have e15 := evD (hD 8 (by kernel_rfl) 15 rfl)
  clear hD hO
  refine hdV rfl ?_ rfl rfl ?_ ?_
  rotate_left 1
  ·simp [go_sem, e15, cx, HL_.out w cx]
   try with_reducible rfl
  ·exact IsV.mk (w := w)
 ·intro A w cx hO hD
  have e14 := evD (hD 7 (by kernel_rfl) 14 rfl)
  have e16 := evD (hD 9 (by kernel_rfl) 16 rfl)
  clear hD hO
  refine hdW rfl rfl ?_
  simp [go_sem, e14, e16]
  refine (status_any d.vd d.seq HSq.out.1 HSq.out.2 _).mono ?_
  rintro e w' ⟨rfl, hx_⟩
  exact ⟨_, rfl, hx_, rfl⟩
 ·intro A w cx hO hD
  have e9 := evD (hD 2 (by kernel_rfl) 9 rfl)
  have e12 := evD (hD 5 (by kernel_rfl) 12 rfl)
  have e17 := evD (hD 10 (by kernel_rfl) 17 rfl)
  clear hD hO
  refine hdV rfl ?_ rfl rfl ?_ ?_
  rotate_left 1
  ·simp [go_sem, e9, e12, e17, cx, HL_.out w cx]
   try with_reducible rfl
  ·exact IsV.mk (w := w)
 ·intro A w cx hO hD
  have e7 := evD (hD 0 (by kernel_rfl) 7 rfl)
  have e18 := evD (hD 11 (by kernel_rfl) 18 rfl)
  clear hD hO
  refine hdW rfl rfl ?_
  simp [go_sem, e7, e18]
  refine (hp_ask HO.out d (swapA d.at_ (0, d.seq, 0) (d.vd, d.seq, 0)) 11 _).mono ?_
  rintro e w' ⟨rfl, hx_⟩
  exact ⟨_, rfl, hx_, rfl⟩
 ·intro A w cx hO hD
  have e19 := evD (hD 12 (by kernel_rfl) 19 rfl)
  clear hD hO
  refine hdV rfl ?_ rfl rfl ?_ ?_
  rotate_left 1
  ·simp [go_sem, e19, cx, HL_.out w cx]
   try with_reducible rfl
  ·exact IsV.mk (w := w)
 ·intro A w cx hO hD
  have e19 := evD (hD 12 (by kernel_rfl) 19 rfl)
  clear hD hO
  refine hdV rfl ?_ rfl rfl ?_ ?_
  rotate_left 1
  ·simp [go_sem, e19, cx, HL_.out w cx]
   try with_reducible rfl
  ·exact IsV.mk (w := w)
 ·intro A w cx hO hD
  have e19 := evD (hD 12 (by kernel_rfl) 19 rfl)
  clear hD hO
  refine hdV rfl ?_ rfl rfl ?_ ?_
  rotate_left 1
  ·simp [go_sem, e19, cx, HL_.out w cx]
   try with_reducible rfl
  ·exact IsV.mk (w := w)
 intro u wx hC hF
 obtain ⟨f0, f1, f2, f3, f4, f5, f6, f7, f8, f9, f10, f11, f12, f13, f14, f15, _⟩ := hF
 have g0 : u 0 = _ := f0
 have g1 : u 1 = _ := f1
 have g2 : u 2 = _ := f2
 have g3 : u 3 = _ := f3
 have g4 : u 4 = _ := f4
 have g5 : u 5 = _ := f5
 have g6 : u 6 = _ := f6
 have g7 : u 7 = _ := f7
 have g8 : u 8 = _ := f8
 have g9 : u 9 = _ := f9
 have g10 : u 10 = _ := f10
 have g11 : u 11 = _ := f11
 have g12 : u 12 = _ := f12
 have g13 : u 13 = _ := f13
 have g14 : u 14 = _ := f14
 have g15 : u 15 = _ := f15
 simp only [fPut, Nat.zero_add, Nat.reduceAdd, g0, g1, g2, g3, g4, g5, g6, g7, g8, g9, g10, g11, g12, g13, g14, g15, Act.put, List.setIfInBounds_toArray, List.set_cons_zero, List.set_cons_succ, List.length_cons, List.length_nil, List.drop_succ_cons, List.drop_zero]
 clear g0 g1 g2 g3 g4 g5 g6 g7 g8 g9 g10 g11 g12 g13 g14 g15 f0 f1 f2 f3 f4 f5 f6 f7 f8 f9 f10 f11 f12 f13 f14 f15
 have cx := hC
 have HE1 := hid (HE_V.out.trans cx)
 have HBr := hid (HB_br.out.of cx)
 have HBa := hid (HB_ba.out.of cx)
 go_wp2_with (first | (refine st_blk rfl 106 _ _ rfl rfl (cs := hL (hR X (hpSettle d).1)) rfl HBr.out rfl Tryz.hInfo (Hr.One.all (hR_one HO.out _)) ?_; intro W1 hb1 hg1) | (refine st_blk rfl 46 _ _ rfl rfl (cs := a8E (hpSettle d).2.1) rfl (HBa.out.grl hg1 (by have h1 := HN_V.out; simp; omega)) rfl Tryz.aInfo (a8E_one' _) ?_; intro W2 hb2 hg2))
 exact bodyPost_ret (res3 Tryz.results166 rfl rfl rfl (hb1.grl hg2 (by have h1 := HN_V.out; simp; omega)) hb2 Tryz.underlying106 rfl Tryz.hInfo Tryz.underlying46 rfl Tryz.aInfo) rfl ⟨rfl, (HE1.out.grl hg1 (by have h1 := HN_V.out; simp; omega)).grl hg2 (by have h1 := HN_V.out; simp; omega)⟩
end Go.Proofs.YtiacdohaiidehaaGreatDoor
