/- Walks of package help: the functions that go on, one by one. -/
import Derived.Test.YtiacdohaiidehaaGreatDoorPk32
namespace Go.Proofs.YtiacdohaiidehaaGreatDoor
set_option linter.unusedSimpArgs false
set_option linter.unusedVariables false
open Go.RowKit
set_option maxRecDepth 100000 in
set_option maxHeartbeats 1000000 in
theorem hp_begin {X : HX} (ho : X.One) (d : Hd) (g : Gt) (w : World) :
 Calls Tryz.prog 29 #[.agg (hL (hR X d)).toArray, .agg (gtE g).toArray] w fun e w' => e = .returned (.tuple #[.agg (hL (hR X (hpLook d 1).1)).toArray, .agg (a8E (hpLook d 1).2.1).toArray, .bool (hpLook d 1).2.2]) ∧ Ext w w' := by
 have HO := hid ho
 clear ho
 go_enter Tryz.func29, Tryz.ntmps29
 go_upto_region 1 with fail
 generalize hV_ : World.alloc _ _ = V
 have HE_V := hid (show Ext w V by rw [← hV_]; exact exP)
 have HB_bx := hid (show Blk V (w.heap.size) (hL (hR X d)) by rw [← hV_]; exact bkP)
 have HB_bg := hid (show Blk V (w.heap.size + 1) (gtE g) by rw [← hV_]; exact bkP)
 have HB_br := hid (show Blk V (w.heap.size + 1 + 1) zH by rw [← hV_]; exact bkP)
 have HB_ba := hid (show Blk V (w.heap.size + 1 + 1 + 1) [.int .i64 0, .int .i64 0, .int .i64 0, .int .u32 0, .int .u32 0, .int .i64 0, .int .u32 0, .int .u32 0] by rw [← hV_]; exact bkP)
 clear hV_
 obtain ⟨ba, hg_ba⟩ : ∃ g, g = w.heap.size + 1 + 1 + 1 := ⟨_, rfl⟩
 simp only [← hg_ba] at HB_ba ⊢
 obtain ⟨br, hg_br⟩ : ∃ g, g = w.heap.size + 1 + 1 := ⟨_, rfl⟩
 simp only [← hg_br] at HB_br ⊢
 obtain ⟨bg, hg_bg⟩ : ∃ g, g = w.heap.size + 1 := ⟨_, rfl⟩
 simp only [← hg_bg] at HB_bg ⊢
 obtain ⟨bx, hg_bx⟩ : ∃ g, g = w.heap.size := ⟨_, rfl⟩
 simp only [← hg_bx] at HB_bx ⊢
 have HN_V := hid (show bx = w.heap.size ∧ bg = w.heap.size + 1 ∧ br = w.heap.size + 1 + 1 ∧ ba = w.heap.size + 1 + 1 + 1 ∧ ba < V.heap.size from ⟨hg_bx, hg_bg, hg_br, hg_ba, HB_ba.out.1⟩)
 clear hg_bx hg_bg hg_br hg_ba
 go_wp2_with (first | (refine ld_blk rfl 106 _ rfl rfl _ HB_bx.out Tryz.underlying106 rfl Tryz.hInfo ?_))
 refine (hp_look HO.out d 1 V).mono ?_
 rintro e w1 ⟨rfl, he⟩
 have HE1 := hid (HE_V.out.trans he)
 have HBr := hid (HB_br.out.of he)
 have HBa := hid (HB_ba.out.of he)
 clear he
 go_wp2_with (first | (refine st_blk rfl 106 _ _ rfl rfl rfl HBr.out rfl Tryz.hInfo (Hr.One.all (hR_one HO.out _)) ?_; intro W1 hb1 hg1) | (refine st_blk rfl 46 _ _ rfl rfl rfl (HBa.out.grl hg1 (by have h1 := HN_V.out; simp; omega)) rfl Tryz.aInfo (a8E_one' _) ?_; intro W2 hb2 hg2))
 exact bodyPost_ret (res3 Tryz.results29 rfl rfl rfl (hb1.grl hg2 (by have h1 := HN_V.out; simp; omega)) hb2 Tryz.underlying106 rfl Tryz.hInfo Tryz.underlying46 rfl Tryz.aInfo) rfl ⟨rfl, (HE1.out.grl hg1 (by have h1 := HN_V.out; simp; omega)).grl hg2 (by have h1 := HN_V.out; simp; omega)⟩
set_option maxRecDepth 100000 in
set_option maxHeartbeats 1000000 in
theorem hp_decided {X : HX} (ho : X.One) (d : Hd) (g : Gt) (w : World) :
 Calls Tryz.prog 175 #[.agg (hL (hR X d)).toArray, .agg (gtE g).toArray] w fun e w' => e = .returned (.tuple #[.agg (hL (hR X (hpRelease X.dur d).1)).toArray, .agg (a8E (hpRelease X.dur d).2.1).toArray, .bool (hpRelease X.dur d).2.2]) ∧ Ext w w' := by
 have HO := hid ho
 clear ho
 go_enter Tryz.func175, Tryz.ntmps175
 go_upto_region 1 with fail
 generalize hV_ : World.alloc _ _ = V
 have HE_V := hid (show Ext w V by rw [← hV_]; exact exP)
 have HB_bx := hid (show Blk V (w.heap.size) (hL (hR X d)) by rw [← hV_]; exact bkP)
 have HB_bg := hid (show Blk V (w.heap.size + 1) (gtE g) by rw [← hV_]; exact bkP)
 have HB_br := hid (show Blk V (w.heap.size + 1 + 1) zH by rw [← hV_]; exact bkP)
 have HB_ba := hid (show Blk V (w.heap.size + 1 + 1 + 1) [.int .i64 0, .int .i64 0, .int .i64 0, .int .u32 0, .int .u32 0, .int .i64 0, .int .u32 0, .int .u32 0] by rw [← hV_]; exact bkP)
 clear hV_
 obtain ⟨ba, hg_ba⟩ : ∃ g, g = w.heap.size + 1 + 1 + 1 := ⟨_, rfl⟩
 simp only [← hg_ba] at HB_ba ⊢
 obtain ⟨br, hg_br⟩ : ∃ g, g = w.heap.size + 1 + 1 := ⟨_, rfl⟩
 simp only [← hg_br] at HB_br ⊢
 obtain ⟨bg, hg_bg⟩ : ∃ g, g = w.heap.size + 1 := ⟨_, rfl⟩
 simp only [← hg_bg] at HB_bg ⊢
 obtain ⟨bx, hg_bx⟩ : ∃ g, g = w.heap.size := ⟨_, rfl⟩
 simp only [← hg_bx] at HB_bx ⊢
 have HN_V := hid (show bx = w.heap.size ∧ bg = w.heap.size + 1 ∧ br = w.heap.size + 1 + 1 ∧ ba = w.heap.size + 1 + 1 + 1 ∧ ba < V.heap.size from ⟨hg_bx, hg_bg, hg_br, hg_ba, HB_ba.out.1⟩)
 clear hg_bx hg_bg hg_br hg_ba
 go_wp2_with (first | (refine ld_blk rfl 106 _ rfl rfl _ HB_bx.out Tryz.underlying106 rfl Tryz.hInfo ?_))
 refine (hp_release HO.out d V).mono ?_
 rintro e w1 ⟨rfl, he⟩
 have HE1 := hid (HE_V.out.trans he)
 have HBr := hid (HB_br.out.of he)
 have HBa := hid (HB_ba.out.of he)
 clear he
 go_wp2_with (first | (refine st_blk rfl 106 _ _ rfl rfl rfl HBr.out rfl Tryz.hInfo (Hr.One.all (hR_one HO.out _)) ?_; intro W1 hb1 hg1) | (refine st_blk rfl 46 _ _ rfl rfl rfl (HBa.out.grl hg1 (by have h1 := HN_V.out; simp; omega)) rfl Tryz.aInfo (a8E_one' _) ?_; intro W2 hb2 hg2))
 exact bodyPost_ret (res3 Tryz.results175 rfl rfl rfl (hb1.grl hg2 (by have h1 := HN_V.out; simp; omega)) hb2 Tryz.underlying106 rfl Tryz.hInfo Tryz.underlying46 rfl Tryz.aInfo) rfl ⟨rfl, (HE1.out.grl hg1 (by have h1 := HN_V.out; simp; omega)).grl hg2 (by have h1 := HN_V.out; simp; omega)⟩
set_option maxRecDepth 100000 in
set_option maxHeartbeats 1000000 in
theorem hp_statusFlushed {X : HX} (ho : X.One) (d : Hd) (g : Gt) (w : World) :
 Calls Tryz.prog 146 #[.agg (hL (hR X d)).toArray, .agg (gtE g).toArray] w fun e w' => e = .returned (.tuple #[.agg (hL (hR X (hpAsk d syncA 13).1)).toArray, .agg (a8E (hpAsk d syncA 13).2.1).toArray, .bool (hpAsk d syncA 13).2.2]) ∧ Ext w w' := by
 have HO := hid ho
 clear ho
 go_enter Tryz.func146, Tryz.ntmps146
 go_upto_region 1 with fail
 generalize hV_ : World.alloc _ _ = V
 have HE_V := hid (show Ext w V by rw [← hV_]; exact exP)
 have HB_bx := hid (show Blk V (w.heap.size) (hL (hR X d)) by rw [← hV_]; exact bkP)
 have HB_bg := hid (show Blk V (w.heap.size + 1) (gtE g) by rw [← hV_]; exact bkP)
 have HB_br := hid (show Blk V (w.heap.size + 1 + 1) zH by rw [← hV_]; exact bkP)
 have HB_ba := hid (show Blk V (w.heap.size + 1 + 1 + 1) [.int .i64 0, .int .i64 0, .int .i64 0, .int .u32 0, .int .u32 0, .int .i64 0, .int .u32 0, .int .u32 0] by rw [← hV_]; exact bkP)
 clear hV_
 obtain ⟨ba, hg_ba⟩ : ∃ g, g = w.heap.size + 1 + 1 + 1 := ⟨_, rfl⟩
 simp only [← hg_ba] at HB_ba ⊢
 obtain ⟨br, hg_br⟩ : ∃ g, g = w.heap.size + 1 + 1 := ⟨_, rfl⟩
 simp only [← hg_br] at HB_br ⊢
 obtain ⟨bg, hg_bg⟩ : ∃ g, g = w.heap.size + 1 := ⟨_, rfl⟩
 simp only [← hg_bg] at HB_bg ⊢
 obtain ⟨bx, hg_bx⟩ : ∃ g, g = w.heap.size := ⟨_, rfl⟩
 simp only [← hg_bx] at HB_bx ⊢
 have HN_V := hid (show bx = w.heap.size ∧ bg = w.heap.size + 1 ∧ br = w.heap.size + 1 + 1 ∧ ba = w.heap.size + 1 + 1 + 1 ∧ ba < V.heap.size from ⟨hg_bx, hg_bg, hg_br, hg_ba, HB_ba.out.1⟩)
 clear hg_bx hg_bg hg_br hg_ba
 go_wp2_with (first | (refine ld_blk rfl 106 _ rfl rfl _ HB_bx.out Tryz.underlying106 rfl Tryz.hInfo ?_))
 refine (hp_ask HO.out d syncA 13 V).mono ?_
 rintro e w1 ⟨rfl, he⟩
 have HE1 := hid (HE_V.out.trans he)
 have HBr := hid (HB_br.out.of he)
 have HBa := hid (HB_ba.out.of he)
 clear he
 go_wp2_with (first | (refine st_blk rfl 106 _ _ rfl rfl rfl HBr.out rfl Tryz.hInfo (Hr.One.all (hR_one HO.out _)) ?_; intro W1 hb1 hg1) | (refine st_blk rfl 46 _ _ rfl rfl rfl (HBa.out.grl hg1 (by have h1 := HN_V.out; simp; omega)) rfl Tryz.aInfo (a8E_one' _) ?_; intro W2 hb2 hg2))
 exact bodyPost_ret (res3 Tryz.results146 rfl rfl rfl (hb1.grl hg2 (by have h1 := HN_V.out; simp; omega)) hb2 Tryz.underlying106 rfl Tryz.hInfo Tryz.underlying46 rfl Tryz.aInfo) rfl ⟨rfl, (HE1.out.grl hg1 (by have h1 := HN_V.out; simp; omega)).grl hg2 (by have h1 := HN_V.out; simp; omega)⟩
set_option maxRecDepth 100000 in
set_option maxHeartbeats 1000000 in
theorem hp_statusKept {X : HX} (ho : X.One) (d : Hd) (g : Gt) (w : World) :
 Calls Tryz.prog 163 #[.agg (hL (hR X d)).toArray, .agg (gtE g).toArray] w fun e w' => e = .returned (.tuple #[.agg (hL (hR X (hpLook d 14).1)).toArray, .agg (a8E (hpLook d 14).2.1).toArray, .bool (hpLook d 14).2.2]) ∧ Ext w w' := by
 have HO := hid ho
 clear ho
 go_enter Tryz.func163, Tryz.ntmps163
 go_upto_region 1 with fail
 generalize hV_ : World.alloc _ _ = V
 have HE_V := hid (show Ext w V by rw [← hV_]; exact exP)
 have HB_bx := hid (show Blk V (w.heap.size) (hL (hR X d)) by rw [← hV_]; exact bkP)
 have HB_bg := hid (show Blk V (w.heap.size + 1) (gtE g) by rw [← hV_]; exact bkP)
 have HB_br := hid (show Blk V (w.heap.size + 1 + 1) zH by rw [← hV_]; exact bkP)
 have HB_ba := hid (show Blk V (w.heap.size + 1 + 1 + 1) [.int .i64 0, .int .i64 0, .int .i64 0, .int .u32 0, .int .u32 0, .int .i64 0, .int .u32 0, .int .u32 0] by rw [← hV_]; exact bkP)
 clear hV_
 obtain ⟨ba, hg_ba⟩ : ∃ g, g = w.heap.size + 1 + 1 + 1 := ⟨_, rfl⟩
 simp only [← hg_ba] at HB_ba ⊢
 obtain ⟨br, hg_br⟩ : ∃ g, g = w.heap.size + 1 + 1 := ⟨_, rfl⟩
 simp only [← hg_br] at HB_br ⊢
 obtain ⟨bg, hg_bg⟩ : ∃ g, g = w.heap.size + 1 := ⟨_, rfl⟩
 simp only [← hg_bg] at HB_bg ⊢
 obtain ⟨bx, hg_bx⟩ : ∃ g, g = w.heap.size := ⟨_, rfl⟩
 simp only [← hg_bx] at HB_bx ⊢
 have HN_V := hid (show bx = w.heap.size ∧ bg = w.heap.size + 1 ∧ br = w.heap.size + 1 + 1 ∧ ba = w.heap.size + 1 + 1 + 1 ∧ ba < V.heap.size from ⟨hg_bx, hg_bg, hg_br, hg_ba, HB_ba.out.1⟩)
 clear hg_bx hg_bg hg_br hg_ba
 go_wp2_with (first | (refine ld_blk rfl 106 _ rfl rfl _ HB_bx.out Tryz.underlying106 rfl Tryz.hInfo ?_))
 refine (hp_look HO.out d 14 V).mono ?_
 rintro e w1 ⟨rfl, he⟩
 have HE1 := hid (HE_V.out.trans he)
 have HBr := hid (HB_br.out.of he)
 have HBa := hid (HB_ba.out.of he)
 clear he
 go_wp2_with (first | (refine st_blk rfl 106 _ _ rfl rfl rfl HBr.out rfl Tryz.hInfo (Hr.One.all (hR_one HO.out _)) ?_; intro W1 hb1 hg1) | (refine st_blk rfl 46 _ _ rfl rfl rfl (HBa.out.grl hg1 (by have h1 := HN_V.out; simp; omega)) rfl Tryz.aInfo (a8E_one' _) ?_; intro W2 hb2 hg2))
 exact bodyPost_ret (res3 Tryz.results163 rfl rfl rfl (hb1.grl hg2 (by have h1 := HN_V.out; simp; omega)) hb2 Tryz.underlying106 rfl Tryz.hInfo Tryz.underlying46 rfl Tryz.aInfo) rfl ⟨rfl, (HE1.out.grl hg1 (by have h1 := HN_V.out; simp; omega)).grl hg2 (by have h1 := HN_V.out; simp; omega)⟩
set_option maxRecDepth 100000 in
set_option maxHeartbeats 1000000 in
theorem hp_through {X : HX} (ho : X.One) (d : Hd) (hn : X.inn = .nilIface) (g : Gt) (w : World) :
 Calls Tryz.prog 173 #[.agg (hL (hR X d)).toArray, .agg (gtE g).toArray] w fun e w' => e = .returned (.tuple #[.agg (hL (hR X (hpEnd d d.vd).1)).toArray, .agg (a8E (hpEnd d d.vd).2.1).toArray, .bool (hpEnd d d.vd).2.2]) ∧ Ext w w' := by
 have HO := hid ho
 clear ho
 have HNi := hid hn
 clear hn
 go_enter Tryz.func173, Tryz.ntmps173
 go_upto_region 1 with fail
 generalize hV_ : World.alloc _ _ = V
 have HE_V := hid (show Ext w V by rw [← hV_]; exact exP)
 have HB_bx := hid (show Blk V (w.heap.size) (hL (hR X d)) by rw [← hV_]; exact bkP)
 have HB_bg := hid (show Blk V (w.heap.size + 1) (gtE g) by rw [← hV_]; exact bkP)
 have HB_br := hid (show Blk V (w.heap.size + 1 + 1) zH by rw [← hV_]; exact bkP)
 have HB_ba := hid (show Blk V (w.heap.size + 1 + 1 + 1) [.int .i64 0, .int .i64 0, .int .i64 0, .int .u32 0, .int .u32 0, .int .i64 0, .int .u32 0, .int .u32 0] by rw [← hV_]; exact bkP)
 clear hV_
 obtain ⟨ba, hg_ba⟩ : ∃ g, g = w.heap.size + 1 + 1 + 1 := ⟨_, rfl⟩
 simp only [← hg_ba] at HB_ba ⊢
 obtain ⟨br, hg_br⟩ : ∃ g, g = w.heap.size + 1 + 1 := ⟨_, rfl⟩
 simp only [← hg_br] at HB_br ⊢
 obtain ⟨bg, hg_bg⟩ : ∃ g, g = w.heap.size + 1 := ⟨_, rfl⟩
 simp only [← hg_bg] at HB_bg ⊢
 obtain ⟨bx, hg_bx⟩ : ∃ g, g = w.heap.size := ⟨_, rfl⟩
 simp only [← hg_bx] at HB_bx ⊢
 have HN_V := hid (show bx = w.heap.size ∧ bg = w.heap.size + 1 ∧ br = w.heap.size + 1 + 1 ∧ ba = w.heap.size + 1 + 1 + 1 ∧ ba < V.heap.size from ⟨hg_bx, hg_bg, hg_br, hg_ba, HB_ba.out.1⟩)
 clear hg_bx hg_bg hg_br hg_ba
 have x_vd : V.cell? ⟨bx, 13, none⟩ = some (.int .i64 d.vd) := HB_bx.out.2.2 13 _ rfl
 have x_g := HB_bx.out.1
 go_wp2_with (first | (refine ld_blk rfl 106 _ rfl rfl _ HB_bx.out Tryz.underlying106 rfl Tryz.hInfo ?_))
 clear x_vd x_g
 refine (hp_end' HO.out HNi.out d d.vd V).mono ?_
 rintro e w1 ⟨rfl, he⟩
 have HE1 := hid (HE_V.out.trans he)
 have HBr := hid (HB_br.out.of he)
 have HBa := hid (HB_ba.out.of he)
 clear he
 go_wp2_with (first | (refine st_blk rfl 106 _ _ rfl rfl rfl HBr.out rfl Tryz.hInfo (Hr.One.all (hR_one HO.out _)) ?_; intro W1 hb1 hg1) | (refine st_blk rfl 46 _ _ rfl rfl rfl (HBa.out.grl hg1 (by have h1 := HN_V.out; simp; omega)) rfl Tryz.aInfo (a8E_one' _) ?_; intro W2 hb2 hg2))
 exact bodyPost_ret (res3 Tryz.results173 rfl rfl rfl (hb1.grl hg2 (by have h1 := HN_V.out; simp; omega)) hb2 Tryz.underlying106 rfl Tryz.hInfo Tryz.underlying46 rfl Tryz.aInfo) rfl ⟨rfl, (HE1.out.grl hg1 (by have h1 := HN_V.out; simp; omega)).grl hg2 (by have h1 := HN_V.out; simp; omega)⟩
set_option maxRecDepth 100000 in
set_option maxHeartbeats 1000000 in
theorem hp_backed {X : HX} (ho : X.One) (d : Hd) (hd : HdN d) (g : Gt) (w : World) (he : Sl w 6 enE X.es d.es) :
 Calls Tryz.prog 179 #[.agg (hL (hR X d)).toArray, .agg (gtE g).toArray] w fun e w' => e = .returned (.tuple #[.agg (hL (hR X (hpInstall X.dur d).1)).toArray, .agg (a8E (hpInstall X.dur d).2.1).toArray, .bool (hpInstall X.dur d).2.2]) ∧ Ext w w' := by
 have HO := hid ho
 clear ho
 have HDn := hid hd
 clear hd
 have HEs := hid he
 clear he
 go_enter Tryz.func179, Tryz.ntmps179
 go_upto_region 1 with fail
 generalize hV_ : World.alloc _ _ = V
 have HE_V := hid (show Ext w V by rw [← hV_]; exact exP)
 have HB_bx := hid (show Blk V (w.heap.size) (hL (hR X d)) by rw [← hV_]; exact bkP)
 have HB_bg := hid (show Blk V (w.heap.size + 1) (gtE g) by rw [← hV_]; exact bkP)
 have HB_br := hid (show Blk V (w.heap.size + 1 + 1) zH by rw [← hV_]; exact bkP)
 have HB_ba := hid (show Blk V (w.heap.size + 1 + 1 + 1) [.int .i64 0, .int .i64 0, .int .i64 0, .int .u32 0, .int .u32 0, .int .i64 0, .int .u32 0, .int .u32 0] by rw [← hV_]; exact bkP)
 clear hV_
 obtain ⟨ba, hg_ba⟩ : ∃ g, g = w.heap.size + 1 + 1 + 1 := ⟨_, rfl⟩
 simp only [← hg_ba] at HB_ba ⊢
 obtain ⟨br, hg_br⟩ : ∃ g, g = w.heap.size + 1 + 1 := ⟨_, rfl⟩
 simp only [← hg_br] at HB_br ⊢
 obtain ⟨bg, hg_bg⟩ : ∃ g, g = w.heap.size + 1 := ⟨_, rfl⟩
 simp only [← hg_bg] at HB_bg ⊢
 obtain ⟨bx, hg_bx⟩ : ∃ g, g = w.heap.size := ⟨_, rfl⟩
 simp only [← hg_bx] at HB_bx ⊢
 have HN_V := hid (show bx = w.heap.size ∧ bg = w.heap.size + 1 ∧ br = w.heap.size + 1 + 1 ∧ ba = w.heap.size + 1 + 1 + 1 ∧ ba < V.heap.size from ⟨hg_bx, hg_bg, hg_br, hg_ba, HB_ba.out.1⟩)
 clear hg_bx hg_bg hg_br hg_ba
 have HEU := hid (show Sl V 6 enE X.es d.es from HEs.out.of enE_len HE_V.out)
 go_wp2_with (first | (refine ld_blk rfl 106 _ rfl rfl _ HB_bx.out Tryz.underlying106 rfl Tryz.hInfo ?_))
 refine (hp_install HO.out d HDn.out V HEU.out).mono ?_
 rintro e w1 ⟨rfl, he⟩
 have HE1 := hid (HE_V.out.trans he)
 have HBr := hid (HB_br.out.of he)
 have HBa := hid (HB_ba.out.of he)
 clear he
 go_wp2_with (first | (refine st_blk rfl 106 _ _ rfl rfl rfl HBr.out rfl Tryz.hInfo (Hr.One.all (hR_one HO.out _)) ?_; intro W1 hb1 hg1) | (refine st_blk rfl 46 _ _ rfl rfl rfl (HBa.out.grl hg1 (by have h1 := HN_V.out; simp; omega)) rfl Tryz.aInfo (a8E_one' _) ?_; intro W2 hb2 hg2))
 exact bodyPost_ret (res3 Tryz.results179 rfl rfl rfl (hb1.grl hg2 (by have h1 := HN_V.out; simp; omega)) hb2 Tryz.underlying106 rfl Tryz.hInfo Tryz.underlying46 rfl Tryz.aInfo) rfl ⟨rfl, (HE1.out.grl hg1 (by have h1 := HN_V.out; simp; omega)).grl hg2 (by have h1 := HN_V.out; simp; omega)⟩
set_option maxRecDepth 100000 in
set_option maxHeartbeats 1000000 in
theorem hp_first {X : HX} (ho : X.One) (d : Hd) (hd : HdN d) (hn : X.inn = .nilIface) (g : Gt) (w : World) :
 Calls Tryz.prog 62 #[.agg (hL (hR X d)).toArray, .agg (gtE g).toArray] w fun e w' => e = .returned (.tuple #[.agg (hL (hR X (hpFirst d g.1).1)).toArray, .agg (a8E (hpFirst d g.1).2.1).toArray, .bool (hpFirst d g.1).2.2]) ∧ Ext w w' := by
 have HO := hid ho
 clear ho
 have HDn := hid hd
 have HNi := hid hn
 have hwa : wrap64 (d.at_ + 1) = d.at_ + 1 := IntWalk.wrap64_in _ (by have := hd.at_; omega)
 clear hd hn
 cases hs : hpStale d g.1
 ·have HR := hid (show hpFirst d g.1 = hpAsk d (loadA (d.at_ + 1)) 2 by unfold hpFirst; rw [hs]; rfl)
  rw [HR.out]
  go_enter Tryz.func62, Tryz.ntmps62
  go_upto_region 1 with fail
  generalize hV_ : World.alloc _ _ = V
  have HE_V := hid (show Ext w V by rw [← hV_]; exact exP)
  have HB_bx := hid (show Blk V (w.heap.size) (hL (hR X d)) by rw [← hV_]; exact bkP)
  have HB_bg := hid (show Blk V (w.heap.size + 1) (gtE g) by rw [← hV_]; exact bkP)
  have HB_br := hid (show Blk V (w.heap.size + 1 + 1) zH by rw [← hV_]; exact bkP)
  have HB_ba := hid (show Blk V (w.heap.size + 1 + 1 + 1) [.int .i64 0, .int .i64 0, .int .i64 0, .int .u32 0, .int .u32 0, .int .i64 0, .int .u32 0, .int .u32 0] by rw [← hV_]; exact bkP)
  clear hV_
  obtain ⟨ba, hg_ba⟩ : ∃ g, g = w.heap.size + 1 + 1 + 1 := ⟨_, rfl⟩
  simp only [← hg_ba] at HB_ba ⊢
  obtain ⟨br, hg_br⟩ : ∃ g, g = w.heap.size + 1 + 1 := ⟨_, rfl⟩
  simp only [← hg_br] at HB_br ⊢
  obtain ⟨bg, hg_bg⟩ : ∃ g, g = w.heap.size + 1 := ⟨_, rfl⟩
  simp only [← hg_bg] at HB_bg ⊢
  obtain ⟨bx, hg_bx⟩ : ∃ g, g = w.heap.size := ⟨_, rfl⟩
  simp only [← hg_bx] at HB_bx ⊢
  have HN_V := hid (show bx = w.heap.size ∧ bg = w.heap.size + 1 ∧ br = w.heap.size + 1 + 1 ∧ ba = w.heap.size + 1 + 1 + 1 ∧ ba < V.heap.size from ⟨hg_bx, hg_bg, hg_br, hg_ba, HB_ba.out.1⟩)
  clear hg_bx hg_bg hg_br hg_ba
  have w0 : V.cell? ⟨bg, 0, none⟩ = some (.int .i64 g.1.1) := HB_bg.out.2.2 0 _ rfl
  have w1 : V.cell? ⟨bg, 1, none⟩ = some (.int .u32 g.1.2.1) := HB_bg.out.2.2 1 _ rfl
  have w2 : V.cell? ⟨bg, 2, none⟩ = some (.int .u32 g.1.2.2) := HB_bg.out.2.2 2 _ rfl
  have wg := HB_bg.out.1
  go_wp2_with (first | (refine ld_blk rfl 106 _ rfl rfl _ HB_bx.out Tryz.underlying106 rfl Tryz.hInfo ?_))
  refine (hp_stale d HDn.out g.1 V).mono ?_
  rintro e w0_ ⟨rfl, he0⟩
  clear w0 w1 w2 wg
  have HE_U := hid (HE_V.out.trans he0)
  have HB_bx2 := hid (HB_bx.out.of he0)
  have HB_br2 := hid (HB_br.out.of he0)
  have HB_ba2 := hid (HB_ba.out.of he0)
  have HB_bg2 := hid (HB_bg.out.of he0)
  clear HB_bx HB_br HB_ba HB_bg he0
  have HB_bx := HB_bx2
  have HB_br := HB_br2
  have HB_ba := HB_ba2
  have HB_bg := HB_bg2
  rw [hs]
  clear hs
  have x_at : w0_.cell? ⟨bx, 4, none⟩ = some (.int .i64 d.at_) := HB_bx.out.2.2 4 _ rfl
  have x_g := HB_bx.out.1
  go_wp2_with (first | (refine ld_blk rfl 106 _ rfl rfl _ HB_bx.out Tryz.underlying106 rfl Tryz.hInfo ?_))
  clear x_at x_g
  refine (hp_ask HO.out d (loadA (d.at_ + 1)) 2 w0_).mono ?_
  rintro e w1 ⟨rfl, he⟩
  have HE1 := hid (HE_U.out.trans he)
  have HBr := hid (HB_br.out.of he)
  have HBa := hid (HB_ba.out.of he)
  clear he
  go_wp2_with (first | (refine st_blk rfl 106 _ _ rfl rfl rfl HBr.out rfl Tryz.hInfo (Hr.One.all (hR_one HO.out _)) ?_; intro W1 hb1 hg1) | (refine st_blk rfl 46 _ _ rfl rfl rfl (HBa.out.grl hg1 (by have h1 := HN_V.out; simp; omega)) rfl Tryz.aInfo (a8E_one' _) ?_; intro W2 hb2 hg2))
  exact bodyPost_ret (res3 Tryz.results62 rfl rfl rfl (hb1.grl hg2 (by have h1 := HN_V.out; simp; omega)) hb2 Tryz.underlying106 rfl Tryz.hInfo Tryz.underlying46 rfl Tryz.aInfo) rfl ⟨rfl, (HE1.out.grl hg1 (by have h1 := HN_V.out; simp; omega)).grl hg2 (by have h1 := HN_V.out; simp; omega)⟩
 ·have HR := hid (show hpFirst d g.1 = hpEnd d 4 by unfold hpFirst; rw [hs]; rfl)
  rw [HR.out]
  go_enter Tryz.func62, Tryz.ntmps62
  go_upto_region 1 with fail
  generalize hV_ : World.alloc _ _ = V
  have HE_V := hid (show Ext w V by rw [← hV_]; exact exP)
  have HB_bx := hid (show Blk V (w.heap.size) (hL (hR X d)) by rw [← hV_]; exact bkP)
  have HB_bg := hid (show Blk V (w.heap.size + 1) (gtE g) by rw [← hV_]; exact bkP)
  have HB_br := hid (show Blk V (w.heap.size + 1 + 1) zH by rw [← hV_]; exact bkP)
  have HB_ba := hid (show Blk V (w.heap.size + 1 + 1 + 1) [.int .i64 0, .int .i64 0, .int .i64 0, .int .u32 0, .int .u32 0, .int .i64 0, .int .u32 0, .int .u32 0] by rw [← hV_]; exact bkP)
  clear hV_
  obtain ⟨ba, hg_ba⟩ : ∃ g, g = w.heap.size + 1 + 1 + 1 := ⟨_, rfl⟩
  simp only [← hg_ba] at HB_ba ⊢
  obtain ⟨br, hg_br⟩ : ∃ g, g = w.heap.size + 1 + 1 := ⟨_, rfl⟩
  simp only [← hg_br] at HB_br ⊢
  obtain ⟨bg, hg_bg⟩ : ∃ g, g = w.heap.size + 1 := ⟨_, rfl⟩
  simp only [← hg_bg] at HB_bg ⊢
  obtain ⟨bx, hg_bx⟩ : ∃ g, g = w.heap.size := ⟨_, rfl⟩
  simp only [← hg_bx] at HB_bx ⊢
  have HN_V := hid (show bx = w.heap.size ∧ bg = w.heap.size + 1 ∧ br = w.heap.size + 1 + 1 ∧ ba = w.heap.size + 1 + 1 + 1 ∧ ba < V.heap.size from ⟨hg_bx, hg_bg, hg_br, hg_ba, HB_ba.out.1⟩)
  clear hg_bx hg_bg hg_br hg_ba
  have w0 : V.cell? ⟨bg, 0, none⟩ = some (.int .i64 g.1.1) := HB_bg.out.2.2 0 _ rfl
  have w1 : V.cell? ⟨bg, 1, none⟩ = some (.int .u32 g.1.2.1) := HB_bg.out.2.2 1 _ rfl
  have w2 : V.cell? ⟨bg, 2, none⟩ = some (.int .u32 g.1.2.2) := HB_bg.out.2.2 2 _ rfl
  have wg := HB_bg.out.1
  go_wp2_with (first | (refine ld_blk rfl 106 _ rfl rfl _ HB_bx.out Tryz.underlying106 rfl Tryz.hInfo ?_))
  refine (hp_stale d HDn.out g.1 V).mono ?_
  rintro e w0_ ⟨rfl, he0⟩
  clear w0 w1 w2 wg
  have HE_U := hid (HE_V.out.trans he0)
  have HB_bx2 := hid (HB_bx.out.of he0)
  have HB_br2 := hid (HB_br.out.of he0)
  have HB_ba2 := hid (HB_ba.out.of he0)
  have HB_bg2 := hid (HB_bg.out.of he0)
  clear HB_bx HB_br HB_ba HB_bg he0
  have HB_bx := HB_bx2
  have HB_br := HB_br2
  have HB_ba := HB_ba2
  have HB_bg := HB_bg2
  rw [hs]
  clear hs
  go_wp2_with (first | (refine ld_blk rfl 106 _ rfl rfl _ HB_bx.out Tryz.underlying106 rfl Tryz.hInfo ?_))
  refine (hp_end' HO.out HNi.out d 4 w0_).mono ?_
  rintro e w1 ⟨rfl, he⟩
  have HE1 := hid (HE_U.out.trans he)
  have HBr := hid (HB_br.out.of he)
  have HBa := hid (HB_ba.out.of he)
  clear he
  go_wp2_with (first | (refine st_blk rfl 106 _ _ rfl rfl rfl HBr.out rfl Tryz.hInfo (Hr.One.all (hR_one HO.out _)) ?_; intro W1 hb1 hg1) | (refine st_blk rfl 46 _ _ rfl rfl rfl (HBa.out.grl hg1 (by have h1 := HN_V.out; simp; omega)) rfl Tryz.aInfo (a8E_one' _) ?_; intro W2 hb2 hg2))
  exact bodyPost_ret (res3 Tryz.results62 rfl rfl rfl (hb1.grl hg2 (by have h1 := HN_V.out; simp; omega)) hb2 Tryz.underlying106 rfl Tryz.hInfo Tryz.underlying46 rfl Tryz.aInfo) rfl ⟨rfl, (HE1.out.grl hg1 (by have h1 := HN_V.out; simp; omega)).grl hg2 (by have h1 := HN_V.out; simp; omega)⟩
set_option maxRecDepth 100000 in
set_option maxHeartbeats 1000000 in
theorem hp_free {X : HX} (ho : X.One) (d : Hd) (hd : HdN d) (hn : X.inn = .nilIface) (w : World) (he : Sl w 6 enE X.es d.es) :
 Calls Tryz.prog 164 #[.agg (hL (hR X d)).toArray] w fun e w' => e = .returned (.tuple #[.agg (hL (hR X (hpFree X.dur d).1)).toArray, .agg (a8E (hpFree X.dur d).2.1).toArray, .bool (hpFree X.dur d).2.2]) ∧ Ext w w' := by
 have HO := hid ho
 clear ho
 have HEs := hid he
 have HDn := hid hd
 have HNi := hid hn
 by_cases hi : d.i < d.es.length
 ·have HR := hid (show hpFree X.dur d = hpAsk d (lookA d.cur.loc) 15 from if_pos hi)
  rw [HR.out]
  obtain ⟨ea, ec, n, hn, hv⟩ := es_len he
  have HVE := hid hv
  have hin : (d.i : Int) < (n : Int) := by omega
  have HL := hid hi
  clear hd he hi hn hv
  go_enter Tryz.func164, Tryz.ntmps164
  go_upto_region 1 with fail
  generalize hV_ : World.alloc _ _ = V
  have HE_V := hid (show Ext w V by rw [← hV_]; exact exP)
  have HB_bx := hid (show Blk V (w.heap.size) (hL (hR X d)) by rw [← hV_]; exact bkP)
  have HB_br := hid (show Blk V (w.heap.size + 1) zH by rw [← hV_]; exact bkP)
  have HB_ba := hid (show Blk V (w.heap.size + 1 + 1) [.int .i64 0, .int .i64 0, .int .i64 0, .int .u32 0, .int .u32 0, .int .i64 0, .int .u32 0, .int .u32 0] by rw [← hV_]; exact bkP)
  clear hV_
  obtain ⟨ba, hg_ba⟩ : ∃ g, g = w.heap.size + 1 + 1 := ⟨_, rfl⟩
  simp only [← hg_ba] at HB_ba ⊢
  obtain ⟨br, hg_br⟩ : ∃ g, g = w.heap.size + 1 := ⟨_, rfl⟩
  simp only [← hg_br] at HB_br ⊢
  obtain ⟨bx, hg_bx⟩ : ∃ g, g = w.heap.size := ⟨_, rfl⟩
  simp only [← hg_bx] at HB_bx ⊢
  have HN_V := hid (show bx = w.heap.size ∧ br = w.heap.size + 1 ∧ ba = w.heap.size + 1 + 1 ∧ ba < V.heap.size from ⟨hg_bx, hg_br, hg_ba, HB_ba.out.1⟩)
  clear hg_bx hg_br hg_ba
  have x_i : V.cell? ⟨bx, 12, none⟩ = some (.int .i64 (d.i : Int)) := HB_bx.out.2.2 12 _ rfl
  have x_g := HB_bx.out.1
  have x_es : V.cell? ⟨bx, 11, none⟩ = some (.slice ea n ec) := by rw [← HVE.out]; exact HB_bx.out.2.2 11 _ rfl
  have HEU := hid (show Sl V 6 enE X.es d.es from HEs.out.of enE_len HE_V.out)
  go_upto_region 2 with fail
  clear x_i x_es hin
  refine wp_region_facts [12, 13, 14, 15, 16, 17, 18, 19] [0, 1, 2, 3, 4, 5, 6, 7] rfl (fun w' => Ext V w') (fsAt [IsV (.agg (hL (hR X d)).toArray), IsV (.agg (hL (hR X d)).toArray), IsV (.int .i64 d.cur.loc), IsV (.agg (a8E (lookA d.cur.loc)).toArray), IsV (.tuple #[.agg (hL (hR X (hpAsk d (lookA d.cur.loc) 15).1)).toArray, .agg (a8E (hpAsk d (lookA d.cur.loc) 15).2.1).toArray, .bool (hpAsk d (lookA d.cur.loc) 15).2.2]), IsV ?_, IsV ?_, IsV ?_]) (by kernel_rfl) (by kernel_rfl) ((Ext.refl _).drew) (fun w w' h he => h.trans he) (aC (fun _ _ _ h _ => h) (aC (fun _ _ _ h _ => h) (aC (fun _ _ _ h _ => h) (aC (fun _ _ _ h _ => h) (aC (fun _ _ _ h _ => h) (aC (fun _ _ _ h _ => h) (aC (fun _ _ _ h _ => h) (aC (fun _ _ _ h _ => h) (AllOn.nil))))))))) (aC ?_ (aC ?_ (aC ?_ (aC ?_ (aC ?_ (aC ?_ (aC ?_ (aC ?_ (AllOn.nil))))))))) ?_
  rotate_left 3
  ·intro A w cx hO hD
   have e1 := evO hO 1 rfl
   clear hD hO
   refine hdW rfl rfl ?_
   refine ld_op _ _ rfl ((ev_tm A 1).trans e1) _ (HB_bx.out.of cx) Tryz.underlying106 rfl Tryz.hInfo ?_
   exact ⟨_, rfl, Ext.refl _, rfl⟩
  ·intro A w cx hO hD
   have e1 := evO hO 1 rfl
   clear hD hO
   refine hdW rfl rfl ?_
   refine ld_op _ _ rfl ((ev_tm A 1).trans e1) _ (HB_bx.out.of cx) Tryz.underlying106 rfl Tryz.hInfo ?_
   exact ⟨_, rfl, Ext.refl _, rfl⟩
  ·intro A w cx hO hD
   have e13 := evD (hD 1 (by kernel_rfl) 13 rfl)
   clear hD hO
   refine hdW rfl rfl ?_
   simp [go_sem, e13]
   refine (hp_place d _ (HEU.out.of enE_len cx) HL.out).mono ?_
   rintro e w' ⟨rfl, hx_⟩
   exact ⟨_, rfl, hx_, rfl⟩
  ·intro A w cx hO hD
   have e14 := evD (hD 2 (by kernel_rfl) 14 rfl)
   clear hD hO
   refine hdW rfl rfl ?_
   simp [go_sem, Oper.wp, execOp, Oper.upon, e14]
   exact ⟨_, rfl, Ext.refl _, rfl⟩
  ·intro A w cx hO hD
   have e12 := evD (hD 0 (by kernel_rfl) 12 rfl)
   have e15 := evD (hD 3 (by kernel_rfl) 15 rfl)
   clear hD hO
   refine hdW rfl rfl ?_
   simp [go_sem, e12, e15]
   refine (hp_ask HO.out d (lookA d.cur.loc) 15 _).mono ?_
   rintro e w' ⟨rfl, hx_⟩
   exact ⟨_, rfl, hx_, rfl⟩
  ·intro A w cx hO hD
   have e16 := evD (hD 4 (by kernel_rfl) 16 rfl)
   clear hD hO
   refine hdV rfl ?_ rfl rfl ?_ ?_
   rotate_left 1
   ·simp [go_sem, e16, cx]
    try with_reducible rfl
   ·exact IsV.mk (w := w)
  ·intro A w cx hO hD
   have e16 := evD (hD 4 (by kernel_rfl) 16 rfl)
   clear hD hO
   refine hdV rfl ?_ rfl rfl ?_ ?_
   rotate_left 1
   ·simp [go_sem, e16, cx]
    try with_reducible rfl
   ·exact IsV.mk (w := w)
  ·intro A w cx hO hD
   have e16 := evD (hD 4 (by kernel_rfl) 16 rfl)
   clear hD hO
   refine hdV rfl ?_ rfl rfl ?_ ?_
   rotate_left 1
   ·simp [go_sem, e16, cx]
    try with_reducible rfl
   ·exact IsV.mk (w := w)
  intro u wx hC hF
  obtain ⟨f0, f1, f2, f3, f4, f5, f6, f7, _⟩ := hF
  have g0 : u 0 = _ := f0
  have g1 : u 1 = _ := f1
  have g2 : u 2 = _ := f2
  have g3 : u 3 = _ := f3
  have g4 : u 4 = _ := f4
  have g5 : u 5 = _ := f5
  have g6 : u 6 = _ := f6
  have g7 : u 7 = _ := f7
  simp only [fPut, Nat.zero_add, Nat.reduceAdd, g0, g1, g2, g3, g4, g5, g6, g7, Act.put, List.setIfInBounds_toArray, List.set_cons_zero, List.set_cons_succ, List.length_cons, List.length_nil, List.drop_succ_cons, List.drop_zero]
  clear g0 g1 g2 g3 g4 g5 g6 g7 f0 f1 f2 f3 f4 f5 f6 f7
  have cx := hC
  have HE1 := hid (HE_V.out.trans cx)
  have HBr := hid (HB_br.out.of cx)
  have HBa := hid (HB_ba.out.of cx)
  go_wp2_with (first | (refine st_blk rfl 106 _ _ rfl rfl (cs := hL (hR X (hpAsk d (lookA d.cur.loc) 15).1)) rfl HBr.out rfl Tryz.hInfo (Hr.One.all (hR_one HO.out _)) ?_; intro W1 hb1 hg1) | (refine st_blk rfl 46 _ _ rfl rfl (cs := a8E (hpAsk d (lookA d.cur.loc) 15).2.1) rfl (HBa.out.grl hg1 (by have h1 := HN_V.out; simp; omega)) rfl Tryz.aInfo (a8E_one' _) ?_; intro W2 hb2 hg2))
  exact bodyPost_ret (res3 Tryz.results164 rfl rfl rfl (hb1.grl hg2 (by have h1 := HN_V.out; simp; omega)) hb2 Tryz.underlying106 rfl Tryz.hInfo Tryz.underlying46 rfl Tryz.aInfo) rfl ⟨rfl, (HE1.out.grl hg1 (by have h1 := HN_V.out; simp; omega)).grl hg2 (by have h1 := HN_V.out; simp; omega)⟩
 ·obtain ⟨ea, ec, n, hn, hv⟩ := es_len he
  have HVE := hid hv
  have hin : ¬ (d.i : Int) < (n : Int) := by omega
  have HI := hid hi
  clear hd he hi hn hv
  cases hdu : X.dur
  ·have HR := hid (show hpFree false d = hpEnd d d.vd from if_neg HI.out)
   rw [HR.out]
   go_enter Tryz.func164, Tryz.ntmps164
   go_upto_region 1 with fail
   generalize hV_ : World.alloc _ _ = V
   have HE_V := hid (show Ext w V by rw [← hV_]; exact exP)
   have HB_bx := hid (show Blk V (w.heap.size) (hL (hR X d)) by rw [← hV_]; exact bkP)
   have HB_br := hid (show Blk V (w.heap.size + 1) zH by rw [← hV_]; exact bkP)
   have HB_ba := hid (show Blk V (w.heap.size + 1 + 1) [.int .i64 0, .int .i64 0, .int .i64 0, .int .u32 0, .int .u32 0, .int .i64 0, .int .u32 0, .int .u32 0] by rw [← hV_]; exact bkP)
   clear hV_
   obtain ⟨ba, hg_ba⟩ : ∃ g, g = w.heap.size + 1 + 1 := ⟨_, rfl⟩
   simp only [← hg_ba] at HB_ba ⊢
   obtain ⟨br, hg_br⟩ : ∃ g, g = w.heap.size + 1 := ⟨_, rfl⟩
   simp only [← hg_br] at HB_br ⊢
   obtain ⟨bx, hg_bx⟩ : ∃ g, g = w.heap.size := ⟨_, rfl⟩
   simp only [← hg_bx] at HB_bx ⊢
   have HN_V := hid (show bx = w.heap.size ∧ br = w.heap.size + 1 ∧ ba = w.heap.size + 1 + 1 ∧ ba < V.heap.size from ⟨hg_bx, hg_br, hg_ba, HB_ba.out.1⟩)
   clear hg_bx hg_br hg_ba
   have x_dur : V.cell? ⟨bx, 8, none⟩ = some (.bool false) := by rw [← hdu]; exact HB_bx.out.2.2 8 _ rfl
   clear hdu
   have x_i : V.cell? ⟨bx, 12, none⟩ = some (.int .i64 (d.i : Int)) := HB_bx.out.2.2 12 _ rfl
   have x_vd : V.cell? ⟨bx, 13, none⟩ = some (.int .i64 d.vd) := HB_bx.out.2.2 13 _ rfl
   have x_g := HB_bx.out.1
   have x_es : V.cell? ⟨bx, 11, none⟩ = some (.slice ea n ec) := by rw [← HVE.out]; exact HB_bx.out.2.2 11 _ rfl
   have HEU := hid (show Sl V 6 enE X.es d.es from HEs.out.of enE_len HE_V.out)
   go_wp2_with (first | (refine ld_blk rfl 106 _ rfl rfl _ HB_bx.out Tryz.underlying106 rfl Tryz.hInfo ?_))
   clear x_i x_dur x_vd x_g
   clear x_es
   refine (hp_end' HO.out HNi.out d d.vd V).mono ?_
   rintro e w1 ⟨rfl, he⟩
   have HE1 := hid (HE_V.out.trans he)
   have HBr := hid (HB_br.out.of he)
   have HBa := hid (HB_ba.out.of he)
   clear he
   go_wp2_with (first | (refine st_blk rfl 106 _ _ rfl rfl rfl HBr.out rfl Tryz.hInfo (Hr.One.all (hR_one HO.out _)) ?_; intro W1 hb1 hg1) | (refine st_blk rfl 46 _ _ rfl rfl rfl (HBa.out.grl hg1 (by have h1 := HN_V.out; simp; omega)) rfl Tryz.aInfo (a8E_one' _) ?_; intro W2 hb2 hg2))
   exact bodyPost_ret (res3 Tryz.results164 rfl rfl rfl (hb1.grl hg2 (by have h1 := HN_V.out; simp; omega)) hb2 Tryz.underlying106 rfl Tryz.hInfo Tryz.underlying46 rfl Tryz.aInfo) rfl ⟨rfl, (HE1.out.grl hg1 (by have h1 := HN_V.out; simp; omega)).grl hg2 (by have h1 := HN_V.out; simp; omega)⟩
  ·have HR := hid (show hpFree true d = hpFlush d 17 from if_neg HI.out)
   rw [HR.out]
   go_enter Tryz.func164, Tryz.ntmps164
   go_upto_region 1 with fail
   generalize hV_ : World.alloc _ _ = V
   have HE_V := hid (show Ext w V by rw [← hV_]; exact exP)
   have HB_bx := hid (show Blk V (w.heap.size) (hL (hR X d)) by rw [← hV_]; exact bkP)
   have HB_br := hid (show Blk V (w.heap.size + 1) zH by rw [← hV_]; exact bkP)
   have HB_ba := hid (show Blk V (w.heap.size + 1 + 1) [.int .i64 0, .int .i64 0, .int .i64 0, .int .u32 0, .int .u32 0, .int .i64 0, .int .u32 0, .int .u32 0] by rw [← hV_]; exact bkP)
   clear hV_
   obtain ⟨ba, hg_ba⟩ : ∃ g, g = w.heap.size + 1 + 1 := ⟨_, rfl⟩
   simp only [← hg_ba] at HB_ba ⊢
   obtain ⟨br, hg_br⟩ : ∃ g, g = w.heap.size + 1 := ⟨_, rfl⟩
   simp only [← hg_br] at HB_br ⊢
   obtain ⟨bx, hg_bx⟩ : ∃ g, g = w.heap.size := ⟨_, rfl⟩
   simp only [← hg_bx] at HB_bx ⊢
   have HN_V := hid (show bx = w.heap.size ∧ br = w.heap.size + 1 ∧ ba = w.heap.size + 1 + 1 ∧ ba < V.heap.size from ⟨hg_bx, hg_br, hg_ba, HB_ba.out.1⟩)
   clear hg_bx hg_br hg_ba
   have x_dur : V.cell? ⟨bx, 8, none⟩ = some (.bool true) := by rw [← hdu]; exact HB_bx.out.2.2 8 _ rfl
   clear hdu
   have x_i : V.cell? ⟨bx, 12, none⟩ = some (.int .i64 (d.i : Int)) := HB_bx.out.2.2 12 _ rfl
   have x_g := HB_bx.out.1
   have x_es : V.cell? ⟨bx, 11, none⟩ = some (.slice ea n ec) := by rw [← HVE.out]; exact HB_bx.out.2.2 11 _ rfl
   have HEU := hid (show Sl V 6 enE X.es d.es from HEs.out.of enE_len HE_V.out)
   go_wp2_with (first | (refine ld_blk rfl 106 _ rfl rfl _ HB_bx.out Tryz.underlying106 rfl Tryz.hInfo ?_))
   clear x_i x_dur x_g
   clear x_es
   refine (hp_flush HO.out d HDn.out 17 (.inr rfl) V HEU.out).mono ?_
   rintro e w1 ⟨rfl, he⟩
   have HE1 := hid (HE_V.out.trans he)
   have HBr := hid (HB_br.out.of he)
   have HBa := hid (HB_ba.out.of he)
   clear he
   go_wp2_with (first | (refine st_blk rfl 106 _ _ rfl rfl rfl HBr.out rfl Tryz.hInfo (Hr.One.all (hR_one HO.out _)) ?_; intro W1 hb1 hg1) | (refine st_blk rfl 46 _ _ rfl rfl rfl (HBa.out.grl hg1 (by have h1 := HN_V.out; simp; omega)) rfl Tryz.aInfo (a8E_one' _) ?_; intro W2 hb2 hg2))
   exact bodyPost_ret (res3 Tryz.results164 rfl rfl rfl (hb1.grl hg2 (by have h1 := HN_V.out; simp; omega)) hb2 Tryz.underlying106 rfl Tryz.hInfo Tryz.underlying46 rfl Tryz.aInfo) rfl ⟨rfl, (HE1.out.grl hg1 (by have h1 := HN_V.out; simp; omega)).grl hg2 (by have h1 := HN_V.out; simp; omega)⟩
set_option maxRecDepth 100000 in
set_option maxHeartbeats 1000000 in
theorem hp_freed {X : HX} (ho : X.One) (d : Hd) (hd : HdN d) (hl : d.i < d.es.length) (hn : X.inn = .nilIface) (g : Gt) (w : World) (he : Sl w 6 enE X.es d.es) :
 Calls Tryz.prog 178 #[.agg (hL (hR X d)).toArray, .agg (gtE g).toArray] w fun e w' => e = .returned (.tuple #[.agg (hL (hR X (hpFreed X.dur d).1)).toArray, .agg (a8E (hpFreed X.dur d).2.1).toArray, .bool (hpFreed X.dur d).2.2]) ∧ Ext w w' := by
 have HO := hid ho
 clear ho
 obtain ⟨iq, hiq, hwi⟩ := iq_of hd
 have HR := hid (show hpFreed X.dur d = hpFree X.dur { d with i := iq } by rw [hiq]; rfl)
 rw [HR.out]
 have HEs := hid he
 have HDn := hid (show HdN { d with i := iq } from ⟨hd.seq, hd.ref, hd.at_, hd.who, hd.most, by show iq ≤ d.es.length; omega, hd.es, hd.ws, hd.many⟩)
 have HNi := hid hn
 clear hd he hl hn hiq
 go_enter Tryz.func178, Tryz.ntmps178
 go_upto_region 1 with fail
 generalize hV_ : World.alloc _ _ = V
 have HE_V := hid (show Ext w V by rw [← hV_]; exact exP)
 have HB_bx := hid (show Blk V (w.heap.size) (hL (hR X d)) by rw [← hV_]; exact bkP)
 have HB_bg := hid (show Blk V (w.heap.size + 1) (gtE g) by rw [← hV_]; exact bkP)
 have HB_br := hid (show Blk V (w.heap.size + 1 + 1) zH by rw [← hV_]; exact bkP)
 have HB_ba := hid (show Blk V (w.heap.size + 1 + 1 + 1) [.int .i64 0, .int .i64 0, .int .i64 0, .int .u32 0, .int .u32 0, .int .i64 0, .int .u32 0, .int .u32 0] by rw [← hV_]; exact bkP)
 clear hV_
 obtain ⟨ba, hg_ba⟩ : ∃ g, g = w.heap.size + 1 + 1 + 1 := ⟨_, rfl⟩
 simp only [← hg_ba] at HB_ba ⊢
 obtain ⟨br, hg_br⟩ : ∃ g, g = w.heap.size + 1 + 1 := ⟨_, rfl⟩
 simp only [← hg_br] at HB_br ⊢
 obtain ⟨bg, hg_bg⟩ : ∃ g, g = w.heap.size + 1 := ⟨_, rfl⟩
 simp only [← hg_bg] at HB_bg ⊢
 obtain ⟨bx, hg_bx⟩ : ∃ g, g = w.heap.size := ⟨_, rfl⟩
 simp only [← hg_bx] at HB_bx ⊢
 have HN_V := hid (show bx = w.heap.size ∧ bg = w.heap.size + 1 ∧ br = w.heap.size + 1 + 1 ∧ ba = w.heap.size + 1 + 1 + 1 ∧ ba < V.heap.size from ⟨hg_bx, hg_bg, hg_br, hg_ba, HB_ba.out.1⟩)
 clear hg_bx hg_bg hg_br hg_ba
 have x_i : V.cell? ⟨bx, 12, none⟩ = some (.int .i64 (d.i : Int)) := HB_bx.out.2.2 12 _ rfl
 have x_g := HB_bx.out.1
 have x_f := HB_bx.out.2.1
 go_upto_region 2 with fail
 generalize hZ_ : World.setCell _ _ _ = U
 have HG_U := hid (show GrL [bx] V U by rw [← hZ_]; exact glP)
 have HB_bx2 := hid (show Blk U bx (hL (hR X { d with i := iq })) by rw [← hZ_]; exact HB_bx.out.set 12 (of_decide_eq_true rfl) _)
 clear hZ_ HB_bx x_i x_g x_f hwi
 have HB_bx := HB_bx2
 have HE_U := hid (HE_V.out.grl HG_U.out (by have h1 := HN_V.out; simp; omega))
 have HB_br2 := hid (HB_br.out.grl HG_U.out (by have h1 := HN_V.out; simp; omega))
 have HB_ba2 := hid (HB_ba.out.grl HG_U.out (by have h1 := HN_V.out; simp; omega))
 clear HB_br HB_ba
 have HB_br := HB_br2
 have HB_ba := HB_ba2
 have HEU := hid (show Sl U 6 enE X.es d.es from HEs.out.of enE_len HE_U.out)
 go_wp2_with (first | (refine ld_blk rfl 106 _ rfl rfl _ HB_bx.out Tryz.underlying106 rfl Tryz.hInfo ?_))
 refine (hp_free HO.out { d with i := iq } HDn.out HNi.out U HEU.out).mono ?_
 rintro e w1 ⟨rfl, he⟩
 have HE1 := hid (HE_U.out.trans he)
 have HBr := hid (HB_br.out.of he)
 have HBa := hid (HB_ba.out.of he)
 clear he
 go_wp2_with (first | (refine st_blk rfl 106 _ _ rfl rfl rfl HBr.out rfl Tryz.hInfo (Hr.One.all (hR_one HO.out _)) ?_; intro W1 hb1 hg1) | (refine st_blk rfl 46 _ _ rfl rfl rfl (HBa.out.grl hg1 (by have h1 := HN_V.out; simp; omega)) rfl Tryz.aInfo (a8E_one' _) ?_; intro W2 hb2 hg2))
 exact bodyPost_ret (res3 Tryz.results178 rfl rfl rfl (hb1.grl hg2 (by have h1 := HN_V.out; simp; omega)) hb2 Tryz.underlying106 rfl Tryz.hInfo Tryz.underlying46 rfl Tryz.aInfo) rfl ⟨rfl, (HE1.out.grl hg1 (by have h1 := HN_V.out; simp; omega)).grl hg2 (by have h1 := HN_V.out; simp; omega)⟩
end Go.Proofs.YtiacdohaiidehaaGreatDoor
