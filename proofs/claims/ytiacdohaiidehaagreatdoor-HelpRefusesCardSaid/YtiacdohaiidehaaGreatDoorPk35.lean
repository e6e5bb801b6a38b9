/- Walks of package help: known, foreign. Arguments opened: slices of words, of entries, and of slices of entries. -/
import Derived.Test.YtiacdohaiidehaaGreatDoorPk34
import Derived.ProofKit
import Derived.Deep.Slices
import Derived.Deep.Strs
import Derived.Lib.SmallJoins
namespace Go.Proofs.YtiacdohaiidehaaGreatDoor
set_option linter.unusedSimpArgs false
set_option linter.unusedVariables false
open Go.RowKit
set_option maxRecDepth 100000 in
set_option maxHeartbeats 1000000 in
theorem hp_known {X : HX} (ho : X.One) (d : Hd) (hd : HdN d) (hn : X.inn = .nilIface) (g : Gt) (w : World) (he : Sl w 6 enE X.es d.es) :
 Calls Tryz.prog 147 #[.agg (hL (hR X d)).toArray, .agg (gtE g).toArray] w fun e w' => e = .returned (.tuple #[.agg (hL (hR X (hpKnown X.dur d g.1).1)).toArray, .agg (a8E (hpKnown X.dur d g.1).2.1).toArray, .bool (hpKnown X.dur d g.1).2.2]) ∧ Ext w w' := by
 have HO := hid ho
 clear ho
 have HEs := hid he
 have HNi := hid hn
 have HSq := hid (show 0 ≤ d.seq ∧ d.seq ≤ 4294967295 by have := hd.seq; omega)
 have HDn := hid (show ∀ v, HdN { d with vd := v, i := 0 } from fun v => ⟨hd.seq, hd.ref, hd.at_, hd.who, hd.most, Nat.zero_le _, hd.es, hd.ws, hd.many⟩)
 obtain ⟨⟨g1, g2, g3⟩, gk⟩ := g
 have heq := eq_word
 have hga := eq_guard_word
 clear hd he hn
 by_cases h1 : (g1, g2, g3) = (1, d.seq, 0)
 ·obtain ⟨rfl, rfl, rfl⟩ : g1 = 1 ∧ g2 = d.seq ∧ g3 = 0 := by simpa using h1
  have HR := hid (show hpKnown X.dur d (1, d.seq, 0) = hpFree X.dur { d with vd := 1, i := 0 } by unfold hpKnown; simp)
  have hq1 : wdB (1, d.seq, 0) (1, d.seq, 0) = true := wdB_self _
  clear h1
  rw [HR.out]
  go_enter Tryz.func147, Tryz.ntmps147
  go_upto_region 1 with fail
  generalize hV_ : World.alloc _ _ = V
  have HE_V := hid (show Ext w V by rw [← hV_]; exact exP)
  have HB_bx := hid (show Blk V (w.heap.size) (hL (hR X d)) by rw [← hV_]; exact bkP)
  have HB_bg := hid (show Blk V (w.heap.size + 1) (gtE ((1, d.seq, 0), gk)) by rw [← hV_]; exact bkP)
  have HB_br := hid (show Blk V (w.heap.size + 1 + 1) zH by rw [← hV_]; exact bkP)
  have HB_ba := hid (show Blk V (w.heap.size + 1 + 1 + 1) [.int .i64 0, .int .i64 0, .int .i64 0, .int .u32 0, .int .u32 0, .int .i64 0, .int .u32 0, .int .u32 0] by rw [← hV_]; exact bkP)
  clear hV_
  obtain ⟨ba, hg_ba⟩ : ∃ g, g = w.heap.size + 1 + 1 + 1 := ⟨_, rfl⟩
  simp only [← hg_ba] at HB_ba ⊢
  obtain ⟨br, hg_br⟩ : ∃ g, g = w.heap.size + 1 + 1 := ⟨_, rfl⟩
  simp only [← hg_br] at HB_br ⊢
  obtain ⟨bg, hg_bg⟩ : ∃ g, g = w.heap.size + 1 := ⟨_, rfl⟩
  simp only [← hg_bg] at HB_bg ⊢
  obtain ⟨bx, hg_bx⟩ : ∃ g, g = w.heap.size := ⟨_, rfl⟩
  simp only [← hg_bx] at HB_bx ⊢
  have HN_V := hid (show bx = w.heap.size ∧ bg = w.heap.size + 1 ∧ br = w.heap.size + 1 + 1 ∧ ba = w.heap.size + 1 + 1 + 1 ∧ ba < V.heap.size from ⟨hg_bx, hg_bg, hg_br, hg_ba, HB_ba.out.1⟩)
  clear hg_bx hg_bg hg_br hg_ba
  have x_vd : V.cell? ⟨bx, 13, none⟩ = some (.int .i64 d.vd) := HB_bx.out.2.2 13 _ rfl
  have x_i : V.cell? ⟨bx, 12, none⟩ = some (.int .i64 (d.i : Int)) := HB_bx.out.2.2 12 _ rfl
  have x_g := HB_bx.out.1
  have x_f := HB_bx.out.2.1
  go_upto_region 2 with fail
  generalize hZ_ : World.setCell _ _ _ = U
  have HG_U := hid (show GrL [bx] V U by rw [← hZ_]; exact glP)
  have HB_bx2 := hid (show Blk U bx (hL (hR X { d with vd := 4, i := 0 })) by rw [← hZ_]; exact (HB_bx.out.set 13 (of_decide_eq_true rfl) _).set 12 (of_decide_eq_true rfl) _)
  clear hZ_ HB_bx x_vd x_i x_g x_f
  have HB_bx := HB_bx2
  clear HB_bx2
  have HE_U := hid (HE_V.out.grl HG_U.out (by have h1 := HN_V.out; simp; omega))
  have HB_br2 := hid (HB_br.out.grl HG_U.out (by have h1 := HN_V.out; simp; omega))
  clear HB_br
  have HB_br := HB_br2
  clear HB_br2
  have HB_ba2 := hid (HB_ba.out.grl HG_U.out (by have h1 := HN_V.out; simp; omega))
  clear HB_ba
  have HB_ba := HB_ba2
  clear HB_ba2
  have HB_bg2 := hid (HB_bg.out.grl HG_U.out (by have h1 := HN_V.out; simp; omega))
  clear HB_bg
  have HB_bg := HB_bg2
  clear HB_bg2
  have w0 : U.cell? ⟨bg, 0, none⟩ = some (.int .i64 1) := HB_bg.out.2.2 0 _ rfl
  have w1 : U.cell? ⟨bg, 1, none⟩ = some (.int .u32 d.seq) := HB_bg.out.2.2 1 _ rfl
  have w2 : U.cell? ⟨bg, 2, none⟩ = some (.int .u32 0) := HB_bg.out.2.2 2 _ rfl
  have wg := HB_bg.out.1
  have x_seq : U.cell? ⟨bx, 6, none⟩ = some (.int .i64 d.seq) := HB_bx.out.2.2 6 _ rfl
  have x_g := HB_bx.out.1
  go_wp2_with fail
  refine (status_any 1 d.seq HSq.out.1 HSq.out.2 U).mono ?_
  rintro e w3 ⟨rfl, hq_⟩
  have hx_ : Ext U w3 := hq_
  clear hq_
  clear w0 w1 w2 wg
  clear x_seq x_g
  have HE_w3 := hid (HE_U.out.trans hx_)
  have HB_bx2 := hid (HB_bx.out.of hx_)
  have HB_bg2 := hid (HB_bg.out.of hx_)
  have HB_br2 := hid (HB_br.out.of hx_)
  have HB_ba2 := hid (HB_ba.out.of hx_)
  clear HB_bx HB_bg HB_br HB_ba
  have HB_bx := HB_bx2
  have HB_bg := HB_bg2
  have HB_br := HB_br2
  have HB_ba := HB_ba2
  clear HB_bx2 HB_bg2 HB_br2 HB_ba2
  clear hx_
  have w0 : w3.cell? ⟨bg, 0, none⟩ = some (.int .i64 1) := HB_bg.out.2.2 0 _ rfl
  have w1 : w3.cell? ⟨bg, 1, none⟩ = some (.int .u32 d.seq) := HB_bg.out.2.2 1 _ rfl
  have w2 : w3.cell? ⟨bg, 2, none⟩ = some (.int .u32 0) := HB_bg.out.2.2 2 _ rfl
  have wg := HB_bg.out.1
  have x_vd : w3.cell? ⟨bx, 13, none⟩ = some (.int .i64 (4 : Int)) := HB_bx.out.2.2 13 _ rfl
  have x_g := HB_bx.out.1
  have x_f := HB_bx.out.2.1
  go_upto_region 6 with fail
  generalize hZ_ : World.setCell _ _ _ = Z
  have HG_Z := hid (show GrL [bx] w3 Z by rw [← hZ_]; exact glP)
  have HB_bx2 := hid (show Blk Z bx (hL (hR X { d with vd := 1, i := 0 })) by rw [← hZ_]; exact HB_bx.out.set 13 (of_decide_eq_true rfl) _)
  clear hZ_ HB_bx x_vd x_g x_f
  have HB_bx := HB_bx2
  clear HB_bx2
  have HE_Z := hid (HE_w3.out.grl HG_Z.out (by have h1 := HN_V.out; simp; omega))
  have HB_br2 := hid (HB_br.out.grl HG_Z.out (by have h1 := HN_V.out; simp; omega))
  clear HB_br
  have HB_br := HB_br2
  clear HB_br2
  have HB_ba2 := hid (HB_ba.out.grl HG_Z.out (by have h1 := HN_V.out; simp; omega))
  clear HB_ba
  have HB_ba := HB_ba2
  clear HB_ba2
  have HB_bg2 := hid (HB_bg.out.grl HG_Z.out (by have h1 := HN_V.out; simp; omega))
  clear HB_bg
  have HB_bg := HB_bg2
  clear HB_bg2
  clear w0 w1 w2 wg
  have HEU := hid (show Sl Z 6 enE X.es d.es from HEs.out.of enE_len HE_Z.out)
  go_wp2_with (first | (refine ld_blk rfl 106 _ rfl rfl _ HB_bx.out Tryz.underlying106 rfl Tryz.hInfo ?_))
  refine (hp_free HO.out { d with vd := 1, i := 0 } (HDn.out 1) HNi.out Z HEU.out).mono ?_
  rintro e w1 ⟨rfl, he⟩
  have HE1 := hid (HE_Z.out.trans he)
  have HBr := hid (HB_br.out.of he)
  have HBa := hid (HB_ba.out.of he)
  clear he
  go_wp2_with (first | (refine st_blk rfl 106 _ _ rfl rfl rfl HBr.out rfl Tryz.hInfo (Hr.One.all (hR_one HO.out _)) ?_; intro W1 hb1 hg1) | (refine st_blk rfl 46 _ _ rfl rfl rfl (HBa.out.grl hg1 (by have h1 := HN_V.out; simp; omega)) rfl Tryz.aInfo (a8E_one' _) ?_; intro W2 hb2 hg2))
  exact bodyPost_ret (res3 Tryz.results147 rfl rfl rfl (hb1.grl hg2 (by have h1 := HN_V.out; simp; omega)) hb2 Tryz.underlying106 rfl Tryz.hInfo Tryz.underlying46 rfl Tryz.aInfo) rfl ⟨rfl, (HE1.out.grl hg1 (by have h1 := HN_V.out; simp; omega)).grl hg2 (by have h1 := HN_V.out; simp; omega)⟩
 ·by_cases h2 : (g1, g2, g3) = (2, d.seq, 0)
  ·obtain ⟨rfl, rfl, rfl⟩ : g1 = 2 ∧ g2 = d.seq ∧ g3 = 0 := by simpa using h2
   have HR := hid (show hpKnown X.dur d (2, d.seq, 0) = hpFree X.dur { d with vd := 2, i := 0 } by unfold hpKnown; simp)
   have hq1 : wdB (2, d.seq, 0) (1, d.seq, 0) = false := by unfold wdB; simp
   have hq2 : wdB (2, d.seq, 0) (2, d.seq, 0) = true := wdB_self _
   clear h1 h2
   rw [HR.out]
   go_enter Tryz.func147, Tryz.ntmps147
   go_upto_region 1 with fail
   generalize hV_ : World.alloc _ _ = V
   have HE_V := hid (show Ext w V by rw [← hV_]; exact exP)
   have HB_bx := hid (show Blk V (w.heap.size) (hL (hR X d)) by rw [← hV_]; exact bkP)
   have HB_bg := hid (show Blk V (w.heap.size + 1) (gtE ((2, d.seq, 0), gk)) by rw [← hV_]; exact bkP)
   have HB_br := hid (show Blk V (w.heap.size + 1 + 1) zH by rw [← hV_]; exact bkP)
   have HB_ba := hid (show Blk V (w.heap.size + 1 + 1 + 1) [.int .i64 0, .int .i64 0, .int .i64 0, .int .u32 0, .int .u32 0, .int .i64 0, .int .u32 0, .int .u32 0] by rw [← hV_]; exact bkP)
   clear hV_
   obtain ⟨ba, hg_ba⟩ : ∃ g, g = w.heap.size + 1 + 1 + 1 := ⟨_, rfl⟩
   simp only [← hg_ba] at HB_ba ⊢
   obtain ⟨br, hg_br⟩ : ∃ g, g = w.heap.size + 1 + 1 := ⟨_, rfl⟩
   simp only [← hg_br] at HB_br ⊢
   obtain ⟨bg, hg_bg⟩ : ∃ g, g = w.heap.size + 1 := ⟨_, rfl⟩
   simp only [← hg_bg] at HB_bg ⊢
   obtain ⟨bx, hg_bx⟩ : ∃ g, g = w.heap.size := ⟨_, rfl⟩
   simp only [← hg_bx] at HB_bx ⊢
   have HN_V := hid (show bx = w.heap.size ∧ bg = w.heap.size + 1 ∧ br = w.heap.size + 1 + 1 ∧ ba = w.heap.size + 1 + 1 + 1 ∧ ba < V.heap.size from ⟨hg_bx, hg_bg, hg_br, hg_ba, HB_ba.out.1⟩)
   clear hg_bx hg_bg hg_br hg_ba
   have x_vd : V.cell? ⟨bx, 13, none⟩ = some (.int .i64 d.vd) := HB_bx.out.2.2 13 _ rfl
   have x_i : V.cell? ⟨bx, 12, none⟩ = some (.int .i64 (d.i : Int)) := HB_bx.out.2.2 12 _ rfl
   have x_g := HB_bx.out.1
   have x_f := HB_bx.out.2.1
   go_upto_region 2 with fail
   generalize hZ_ : World.setCell _ _ _ = U
   have HG_U := hid (show GrL [bx] V U by rw [← hZ_]; exact glP)
   have HB_bx2 := hid (show Blk U bx (hL (hR X { d with vd := 4, i := 0 })) by rw [← hZ_]; exact (HB_bx.out.set 13 (of_decide_eq_true rfl) _).set 12 (of_decide_eq_true rfl) _)
   clear hZ_ HB_bx x_vd x_i x_g x_f
   have HB_bx := HB_bx2
   clear HB_bx2
   have HE_U := hid (HE_V.out.grl HG_U.out (by have h1 := HN_V.out; simp; omega))
   have HB_br2 := hid (HB_br.out.grl HG_U.out (by have h1 := HN_V.out; simp; omega))
   clear HB_br
   have HB_br := HB_br2
   clear HB_br2
   have HB_ba2 := hid (HB_ba.out.grl HG_U.out (by have h1 := HN_V.out; simp; omega))
   clear HB_ba
   have HB_ba := HB_ba2
   clear HB_ba2
   have HB_bg2 := hid (HB_bg.out.grl HG_U.out (by have h1 := HN_V.out; simp; omega))
   clear HB_bg
   have HB_bg := HB_bg2
   clear HB_bg2
   have w0 : U.cell? ⟨bg, 0, none⟩ = some (.int .i64 2) := HB_bg.out.2.2 0 _ rfl
   have w1 : U.cell? ⟨bg, 1, none⟩ = some (.int .u32 d.seq) := HB_bg.out.2.2 1 _ rfl
   have w2 : U.cell? ⟨bg, 2, none⟩ = some (.int .u32 0) := HB_bg.out.2.2 2 _ rfl
   have wg := HB_bg.out.1
   have x_seq : U.cell? ⟨bx, 6, none⟩ = some (.int .i64 d.seq) := HB_bx.out.2.2 6 _ rfl
   have x_g := HB_bx.out.1
   go_wp2_with fail
   refine (status_any 1 d.seq HSq.out.1 HSq.out.2 U).mono ?_
   rintro e w3 ⟨rfl, hq_⟩
   have hx_ : Ext U w3 := hq_
   clear hq_
   clear w0 w1 w2 wg
   clear x_seq x_g
   have HE_w3 := hid (HE_U.out.trans hx_)
   have HB_bx2 := hid (HB_bx.out.of hx_)
   have HB_bg2 := hid (HB_bg.out.of hx_)
   have HB_br2 := hid (HB_br.out.of hx_)
   have HB_ba2 := hid (HB_ba.out.of hx_)
   clear HB_bx HB_bg HB_br HB_ba
   have HB_bx := HB_bx2
   have HB_bg := HB_bg2
   have HB_br := HB_br2
   have HB_ba := HB_ba2
   clear HB_bx2 HB_bg2 HB_br2 HB_ba2
   clear hx_
   have x_seq : w3.cell? ⟨bx, 6, none⟩ = some (.int .i64 d.seq) := HB_bx.out.2.2 6 _ rfl
   have x_g := HB_bx.out.1
   go_wp2_with fail
   refine (status_any 2 d.seq HSq.out.1 HSq.out.2 w3).mono ?_
   rintro e w4 ⟨rfl, hq_⟩
   have hx_ : Ext w3 w4 := hq_
   clear hq_
   clear x_seq x_g
   have HE_w4 := hid (HE_w3.out.trans hx_)
   have HB_bx2 := hid (HB_bx.out.of hx_)
   have HB_bg2 := hid (HB_bg.out.of hx_)
   have HB_br2 := hid (HB_br.out.of hx_)
   have HB_ba2 := hid (HB_ba.out.of hx_)
   clear HB_bx HB_bg HB_br HB_ba
   have HB_bx := HB_bx2
   have HB_bg := HB_bg2
   have HB_br := HB_br2
   have HB_ba := HB_ba2
   clear HB_bx2 HB_bg2 HB_br2 HB_ba2
   clear hx_
   have w0 : w4.cell? ⟨bg, 0, none⟩ = some (.int .i64 2) := HB_bg.out.2.2 0 _ rfl
   have w1 : w4.cell? ⟨bg, 1, none⟩ = some (.int .u32 d.seq) := HB_bg.out.2.2 1 _ rfl
   have w2 : w4.cell? ⟨bg, 2, none⟩ = some (.int .u32 0) := HB_bg.out.2.2 2 _ rfl
   have wg := HB_bg.out.1
   have x_vd : w4.cell? ⟨bx, 13, none⟩ = some (.int .i64 (4 : Int)) := HB_bx.out.2.2 13 _ rfl
   have x_g := HB_bx.out.1
   have x_f := HB_bx.out.2.1
   go_upto_region 6 with fail
   generalize hZ_ : World.setCell _ _ _ = Z
   have HG_Z := hid (show GrL [bx] w4 Z by rw [← hZ_]; exact glP)
   have HB_bx2 := hid (show Blk Z bx (hL (hR X { d with vd := 2, i := 0 })) by rw [← hZ_]; exact HB_bx.out.set 13 (of_decide_eq_true rfl) _)
   clear hZ_ HB_bx x_vd x_g x_f
   have HB_bx := HB_bx2
   clear HB_bx2
   have HE_Z := hid (HE_w4.out.grl HG_Z.out (by have h1 := HN_V.out; simp; omega))
   have HB_br2 := hid (HB_br.out.grl HG_Z.out (by have h1 := HN_V.out; simp; omega))
   clear HB_br
   have HB_br := HB_br2
   clear HB_br2
   have HB_ba2 := hid (HB_ba.out.grl HG_Z.out (by have h1 := HN_V.out; simp; omega))
   clear HB_ba
   have HB_ba := HB_ba2
   clear HB_ba2
   have HB_bg2 := hid (HB_bg.out.grl HG_Z.out (by have h1 := HN_V.out; simp; omega))
   clear HB_bg
   have HB_bg := HB_bg2
   clear HB_bg2
   clear w0 w1 w2 wg
   have HEU := hid (show Sl Z 6 enE X.es d.es from HEs.out.of enE_len HE_Z.out)
   go_wp2_with (first | (refine ld_blk rfl 106 _ rfl rfl _ HB_bx.out Tryz.underlying106 rfl Tryz.hInfo ?_))
   refine (hp_free HO.out { d with vd := 2, i := 0 } (HDn.out 2) HNi.out Z HEU.out).mono ?_
   rintro e w1 ⟨rfl, he⟩
   have HE1 := hid (HE_Z.out.trans he)
   have HBr := hid (HB_br.out.of he)
   have HBa := hid (HB_ba.out.of he)
   clear he
   go_wp2_with (first | (refine st_blk rfl 106 _ _ rfl rfl rfl HBr.out rfl Tryz.hInfo (Hr.One.all (hR_one HO.out _)) ?_; intro W1 hb1 hg1) | (refine st_blk rfl 46 _ _ rfl rfl rfl (HBa.out.grl hg1 (by have h1 := HN_V.out; simp; omega)) rfl Tryz.aInfo (a8E_one' _) ?_; intro W2 hb2 hg2))
   exact bodyPost_ret (res3 Tryz.results147 rfl rfl rfl (hb1.grl hg2 (by have h1 := HN_V.out; simp; omega)) hb2 Tryz.underlying106 rfl Tryz.hInfo Tryz.underlying46 rfl Tryz.aInfo) rfl ⟨rfl, (HE1.out.grl hg1 (by have h1 := HN_V.out; simp; omega)).grl hg2 (by have h1 := HN_V.out; simp; omega)⟩
  ·have HR := hid (show hpKnown X.dur d (g1, g2, g3) = hpFree X.dur { d with vd := 4, i := 0 } by unfold hpKnown; rw [if_neg (by intro h; rcases h with h | h; exact h1 h; exact h2 h)])
   have hq1 : wdB (g1, g2, g3) (1, d.seq, 0) = false := decide_eq_false h1
   have hq2 : wdB (g1, g2, g3) (2, d.seq, 0) = false := decide_eq_false h2
   clear h1 h2
   rw [HR.out]
   go_enter Tryz.func147, Tryz.ntmps147
   go_upto_region 1 with fail
   generalize hV_ : World.alloc _ _ = V
   have HE_V := hid (show Ext w V by rw [← hV_]; exact exP)
   have HB_bx := hid (show Blk V (w.heap.size) (hL (hR X d)) by rw [← hV_]; exact bkP)
   have HB_bg := hid (show Blk V (w.heap.size + 1) (gtE ((g1, g2, g3), gk)) by rw [← hV_]; exact bkP)
   have HB_br := hid (show Blk V (w.heap.size + 1 + 1) zH by rw [← hV_]; exact bkP)
   have HB_ba := hid (show Blk V (w.heap.size + 1 + 1 + 1) [.int .i64 0, .int .i64 0, .int .i64 0, .int .u32 0, .int .u32 0, .int .i64 0, .int .u32 0, .int .u32 0] by rw [← hV_]; exact bkP)
   clear hV_
   obtain ⟨ba, hg_ba⟩ : ∃ g, g = w.heap.size + 1 + 1 + 1 := ⟨_, rfl⟩
   simp only [← hg_ba] at HB_ba ⊢
   obtain ⟨br, hg_br⟩ : ∃ g, g = w.heap.size + 1 + 1 := ⟨_, rfl⟩
   simp only [← hg_br] at HB_br ⊢
   obtain ⟨bg, hg_bg⟩ : ∃ g, g = w.heap.size + 1 := ⟨_, rfl⟩
   simp only [← hg_bg] at HB_bg ⊢
   obtain ⟨bx, hg_bx⟩ : ∃ g, g = w.heap.size := ⟨_, rfl⟩
   simp only [← hg_bx] at HB_bx ⊢
   have HN_V := hid (show bx = w.heap.size ∧ bg = w.heap.size + 1 ∧ br = w.heap.size + 1 + 1 ∧ ba = w.heap.size + 1 + 1 + 1 ∧ ba < V.heap.size from ⟨hg_bx, hg_bg, hg_br, hg_ba, HB_ba.out.1⟩)
   clear hg_bx hg_bg hg_br hg_ba
   have x_vd : V.cell? ⟨bx, 13, none⟩ = some (.int .i64 d.vd) := HB_bx.out.2.2 13 _ rfl
   have x_i : V.cell? ⟨bx, 12, none⟩ = some (.int .i64 (d.i : Int)) := HB_bx.out.2.2 12 _ rfl
   have x_g := HB_bx.out.1
   have x_f := HB_bx.out.2.1
   go_upto_region 2 with fail
   generalize hZ_ : World.setCell _ _ _ = U
   have HG_U := hid (show GrL [bx] V U by rw [← hZ_]; exact glP)
   have HB_bx2 := hid (show Blk U bx (hL (hR X { d with vd := 4, i := 0 })) by rw [← hZ_]; exact (HB_bx.out.set 13 (of_decide_eq_true rfl) _).set 12 (of_decide_eq_true rfl) _)
   clear hZ_ HB_bx x_vd x_i x_g x_f
   have HB_bx := HB_bx2
   clear HB_bx2
   have HE_U := hid (HE_V.out.grl HG_U.out (by have h1 := HN_V.out; simp; omega))
   have HB_br2 := hid (HB_br.out.grl HG_U.out (by have h1 := HN_V.out; simp; omega))
   clear HB_br
   have HB_br := HB_br2
   clear HB_br2
   have HB_ba2 := hid (HB_ba.out.grl HG_U.out (by have h1 := HN_V.out; simp; omega))
   clear HB_ba
   have HB_ba := HB_ba2
   clear HB_ba2
   have HB_bg2 := hid (HB_bg.out.grl HG_U.out (by have h1 := HN_V.out; simp; omega))
   clear HB_bg
   have HB_bg := HB_bg2
   clear HB_bg2
   have w0 : U.cell? ⟨bg, 0, none⟩ = some (.int .i64 g1) := HB_bg.out.2.2 0 _ rfl
   have w1 : U.cell? ⟨bg, 1, none⟩ = some (.int .u32 g2) := HB_bg.out.2.2 1 _ rfl
   have w2 : U.cell? ⟨bg, 2, none⟩ = some (.int .u32 g3) := HB_bg.out.2.2 2 _ rfl
   have wg := HB_bg.out.1
   have x_seq : U.cell? ⟨bx, 6, none⟩ = some (.int .i64 d.seq) := HB_bx.out.2.2 6 _ rfl
   have x_g := HB_bx.out.1
   go_wp2_with fail
   refine (status_any 1 d.seq HSq.out.1 HSq.out.2 U).mono ?_
   rintro e w3 ⟨rfl, hq_⟩
   have hx_ : Ext U w3 := hq_
   clear hq_
   clear w0 w1 w2 wg
   clear x_seq x_g
   have HE_w3 := hid (HE_U.out.trans hx_)
   have HB_bx2 := hid (HB_bx.out.of hx_)
   have HB_bg2 := hid (HB_bg.out.of hx_)
   have HB_br2 := hid (HB_br.out.of hx_)
   have HB_ba2 := hid (HB_ba.out.of hx_)
   clear HB_bx HB_bg HB_br HB_ba
   have HB_bx := HB_bx2
   have HB_bg := HB_bg2
   have HB_br := HB_br2
   have HB_ba := HB_ba2
   clear HB_bx2 HB_bg2 HB_br2 HB_ba2
   clear hx_
   have x_seq : w3.cell? ⟨bx, 6, none⟩ = some (.int .i64 d.seq) := HB_bx.out.2.2 6 _ rfl
   have x_g := HB_bx.out.1
   go_wp2_with fail
   refine (status_any 2 d.seq HSq.out.1 HSq.out.2 w3).mono ?_
   rintro e w4 ⟨rfl, hq_⟩
   have hx_ : Ext w3 w4 := hq_
   clear hq_
   clear x_seq x_g
   have HE_w4 := hid (HE_w3.out.trans hx_)
   have HB_bx2 := hid (HB_bx.out.of hx_)
   have HB_bg2 := hid (HB_bg.out.of hx_)
   have HB_br2 := hid (HB_br.out.of hx_)
   have HB_ba2 := hid (HB_ba.out.of hx_)
   clear HB_bx HB_bg HB_br HB_ba
   have HB_bx := HB_bx2
   have HB_bg := HB_bg2
   have HB_br := HB_br2
   have HB_ba := HB_ba2
   clear HB_bx2 HB_bg2 HB_br2 HB_ba2
   clear hx_
   have HEU := hid (show Sl w4 6 enE X.es d.es from HEs.out.of enE_len HE_w4.out)
   go_wp2_with (first | (refine ld_blk rfl 106 _ rfl rfl _ HB_bx.out Tryz.underlying106 rfl Tryz.hInfo ?_))
   refine (hp_free HO.out { d with vd := 4, i := 0 } (HDn.out 4) HNi.out w4 HEU.out).mono ?_
   rintro e w1 ⟨rfl, he⟩
   have HE1 := hid (HE_w4.out.trans he)
   have HBr := hid (HB_br.out.of he)
   have HBa := hid (HB_ba.out.of he)
   clear he
   go_wp2_with (first | (refine st_blk rfl 106 _ _ rfl rfl rfl HBr.out rfl Tryz.hInfo (Hr.One.all (hR_one HO.out _)) ?_; intro W1 hb1 hg1) | (refine st_blk rfl 46 _ _ rfl rfl rfl (HBa.out.grl hg1 (by have h1 := HN_V.out; simp; omega)) rfl Tryz.aInfo (a8E_one' _) ?_; intro W2 hb2 hg2))
   exact bodyPost_ret (res3 Tryz.results147 rfl rfl rfl (hb1.grl hg2 (by have h1 := HN_V.out; simp; omega)) hb2 Tryz.underlying106 rfl Tryz.hInfo Tryz.underlying46 rfl Tryz.aInfo) rfl ⟨rfl, (HE1.out.grl hg1 (by have h1 := HN_V.out; simp; omega)).grl hg2 (by have h1 := HN_V.out; simp; omega)⟩
set_option maxRecDepth 100000 in
set_option maxHeartbeats 1000000 in
theorem hp_foreign {X : HX} (d : Hd) (g : Wd) (h3 : 0 ≤ g.2.2 ∧ g.2.2 ≤ 4294967295) (w : World) (hs : Szs w) : Calls Tryz.prog 167 #[.agg (hL (hR X d)).toArray, .agg (wdE g).toArray] w fun e w' => e = .returned (.bool (hpForeign X.t X.c X.b d g)) ∧ Ext w w' := by
 obtain ⟨g1, g2, g3⟩ := g
 have H3 := hid h3
 have HS := hid hs
 clear h3 hs
 obtain ⟨q, hq⟩ : ∃ q, q = (whoN g3).1 := ⟨_, rfl⟩
 obtain ⟨p1, hp1⟩ : ∃ p, p = (placeN X.t X.c X.b q).1 := ⟨_, rfl⟩
 have HQ := hid hq
 have HP1 := hid hp1
 have HQb := hid (show -9223372036854775808 ≤ q ∧ q ≤ 9223372036854775807 by rw [hq]; unfold whoN; split <;> simp <;> (have := H3.out; omega))
 by_cases h1 : g3 = d.ref
 ·subst h1
  have HR := hid (show hpForeign X.t X.c X.b d (g1, g2, d.ref) = false by unfold hpForeign; dsimp only; rw [← HQ.out, ← HP1.out]; simp [])
  rw [HR.out]
  clear hq hp1 
  go_enter Tryz.func167, Tryz.ntmps167
  go_upto_region 1 with fail
  generalize hV_ : World.alloc _ _ = V
  have HE_V := hid (show Ext w V by rw [← hV_]; exact exP)
  have HB_bx := hid (show Blk V (w.heap.size) (hL (hR X d)) by rw [← hV_]; exact bkP)
  have HB_bw := hid (show Blk V (w.heap.size + 1) (wdE (g1, g2, d.ref)) by rw [← hV_]; exact bkP)
  clear hV_
  obtain ⟨bw, hg_bw⟩ : ∃ g, g = w.heap.size + 1 := ⟨_, rfl⟩
  simp only [← hg_bw] at HB_bw ⊢
  obtain ⟨bx, hg_bx⟩ : ∃ g, g = w.heap.size := ⟨_, rfl⟩
  simp only [← hg_bx] at HB_bx ⊢
  have HN_V := hid (show bx = w.heap.size ∧ bw = w.heap.size + 1 ∧ bw < V.heap.size from ⟨hg_bx, hg_bw, HB_bw.out.1⟩)
  clear hg_bx hg_bw
  have x_ref : V.cell? ⟨bx, 3, none⟩ = some (.int .u32 d.ref) := HB_bx.out.2.2 3 _ rfl
  have x_t : V.cell? ⟨bx, 0, none⟩ = some (.int .i64 X.t) := HB_bx.out.2.2 0 _ rfl
  have x_c : V.cell? ⟨bx, 1, none⟩ = some (.int .i64 X.c) := HB_bx.out.2.2 1 _ rfl
  have x_b : V.cell? ⟨bx, 2, none⟩ = some (.int .i64 X.b) := HB_bx.out.2.2 2 _ rfl
  have x_g := HB_bx.out.1
  have w2 : V.cell? ⟨bw, 2, none⟩ = some (.int .u32 d.ref) := HB_bw.out.2.2 2 _ rfl
  have wg := HB_bw.out.1
  go_wp2_with fail
  refine (who_any d.ref H3.out.1 H3.out.2 V).mono ?_
  rintro e w1 ⟨rfl, hx_⟩
  rw [← HQ.out]
  have hE1 : Ext V w1 := hx_
  have HE1 := hid (HE_V.out.trans hE1)
  have HX1 := hid (HB_bx.out.of hE1)
  have HW1 := hid (HB_bw.out.of hE1)
  clear hx_ hE1 x_ref x_t x_c x_b x_g w2 wg HB_bx HB_bw
  have HB_bx := HX1
  have HB_bw := HW1
  clear HX1 HW1
  have x_t : w1.cell? ⟨bx, 0, none⟩ = some (.int .i64 X.t) := HB_bx.out.2.2 0 _ rfl
  have x_c : w1.cell? ⟨bx, 1, none⟩ = some (.int .i64 X.c) := HB_bx.out.2.2 1 _ rfl
  have x_b : w1.cell? ⟨bx, 2, none⟩ = some (.int .i64 X.b) := HB_bx.out.2.2 2 _ rfl
  have x_g := HB_bx.out.1
  go_wp2_with fail
  refine (place_any X.t X.c X.b q HQb.out.1 HQb.out.2 w1 (HS.out.of HE1.out)).mono ?_
  rintro e w2 ⟨rfl, hx_⟩
  rw [← HP1.out]
  have hE1 : Ext w1 w2 := hx_
  have HE2 := hid (HE1.out.trans hE1)
  have HX1 := hid (HB_bx.out.of hE1)
  have HW1 := hid (HB_bw.out.of hE1)
  clear hx_ hE1 x_t x_c x_b x_g HB_bx HB_bw
  have HB_bx := HX1
  have HB_bw := HW1
  clear HX1 HW1
  have x_ref : w2.cell? ⟨bx, 3, none⟩ = some (.int .u32 d.ref) := HB_bx.out.2.2 3 _ rfl
  have x_g := HB_bx.out.1
  have w2_ : w2.cell? ⟨bw, 2, none⟩ = some (.int .u32 d.ref) := HB_bw.out.2.2 2 _ rfl
  have wg := HB_bw.out.1
  go_wp2_with fail
  go_ret
  exact ⟨rfl, HE2.out⟩
 ·by_cases h2 : q = 0
  ·have h1c : (g3 != d.ref) = true := bne_iff_ne.2 h1
   have h2c : (q != 0) = false := by rw [h2]; rfl
   have HR := hid (show hpForeign X.t X.c X.b d (g1, g2, g3) = false by unfold hpForeign; dsimp only; rw [← HQ.out, ← HP1.out]; simp [h2])
   rw [HR.out]
   clear hq hp1 h1 h2
   go_enter Tryz.func167, Tryz.ntmps167
   go_upto_region 1 with fail
   generalize hV_ : World.alloc _ _ = V
   have HE_V := hid (show Ext w V by rw [← hV_]; exact exP)
   have HB_bx := hid (show Blk V (w.heap.size) (hL (hR X d)) by rw [← hV_]; exact bkP)
   have HB_bw := hid (show Blk V (w.heap.size + 1) (wdE (g1, g2, g3)) by rw [← hV_]; exact bkP)
   clear hV_
   obtain ⟨bw, hg_bw⟩ : ∃ g, g = w.heap.size + 1 := ⟨_, rfl⟩
   simp only [← hg_bw] at HB_bw ⊢
   obtain ⟨bx, hg_bx⟩ : ∃ g, g = w.heap.size := ⟨_, rfl⟩
   simp only [← hg_bx] at HB_bx ⊢
   have HN_V := hid (show bx = w.heap.size ∧ bw = w.heap.size + 1 ∧ bw < V.heap.size from ⟨hg_bx, hg_bw, HB_bw.out.1⟩)
   clear hg_bx hg_bw
   have x_ref : V.cell? ⟨bx, 3, none⟩ = some (.int .u32 d.ref) := HB_bx.out.2.2 3 _ rfl
   have x_t : V.cell? ⟨bx, 0, none⟩ = some (.int .i64 X.t) := HB_bx.out.2.2 0 _ rfl
   have x_c : V.cell? ⟨bx, 1, none⟩ = some (.int .i64 X.c) := HB_bx.out.2.2 1 _ rfl
   have x_b : V.cell? ⟨bx, 2, none⟩ = some (.int .i64 X.b) := HB_bx.out.2.2 2 _ rfl
   have x_g := HB_bx.out.1
   have w2 : V.cell? ⟨bw, 2, none⟩ = some (.int .u32 g3) := HB_bw.out.2.2 2 _ rfl
   have wg := HB_bw.out.1
   go_wp2_with fail
   refine (who_any g3 H3.out.1 H3.out.2 V).mono ?_
   rintro e w1 ⟨rfl, hx_⟩
   rw [← HQ.out]
   have hE1 : Ext V w1 := hx_
   have HE1 := hid (HE_V.out.trans hE1)
   have HX1 := hid (HB_bx.out.of hE1)
   have HW1 := hid (HB_bw.out.of hE1)
   clear hx_ hE1 x_ref x_t x_c x_b x_g w2 wg HB_bx HB_bw
   have HB_bx := HX1
   have HB_bw := HW1
   clear HX1 HW1
   have x_t : w1.cell? ⟨bx, 0, none⟩ = some (.int .i64 X.t) := HB_bx.out.2.2 0 _ rfl
   have x_c : w1.cell? ⟨bx, 1, none⟩ = some (.int .i64 X.c) := HB_bx.out.2.2 1 _ rfl
   have x_b : w1.cell? ⟨bx, 2, none⟩ = some (.int .i64 X.b) := HB_bx.out.2.2 2 _ rfl
   have x_g := HB_bx.out.1
   go_wp2_with fail
   refine (place_any X.t X.c X.b q HQb.out.1 HQb.out.2 w1 (HS.out.of HE1.out)).mono ?_
   rintro e w2 ⟨rfl, hx_⟩
   rw [← HP1.out]
   have hE1 : Ext w1 w2 := hx_
   have HE2 := hid (HE1.out.trans hE1)
   have HX1 := hid (HB_bx.out.of hE1)
   have HW1 := hid (HB_bw.out.of hE1)
   clear hx_ hE1 x_t x_c x_b x_g HB_bx HB_bw
   have HB_bx := HX1
   have HB_bw := HW1
   clear HX1 HW1
   have x_ref : w2.cell? ⟨bx, 3, none⟩ = some (.int .u32 d.ref) := HB_bx.out.2.2 3 _ rfl
   have x_g := HB_bx.out.1
   have w2_ : w2.cell? ⟨bw, 2, none⟩ = some (.int .u32 g3) := HB_bw.out.2.2 2 _ rfl
   have wg := HB_bw.out.1
   go_wp2_with fail
   go_ret
   exact ⟨rfl, HE2.out⟩
  ·by_cases h3 : 0 ≤ p1
   ·have h1c : (g3 != d.ref) = true := bne_iff_ne.2 h1
    have h2c : (q != 0) = true := bne_iff_ne.2 h2
    have h3b : decide ((0 : Int) ≤ p1) = true := decide_eq_true h3
    have HR := hid (show hpForeign X.t X.c X.b d (g1, g2, g3) = true by unfold hpForeign; dsimp only; rw [← HQ.out, ← HP1.out]; simp [h1, h2, h3])
    rw [HR.out]
    clear hq hp1 h1 h2 h3
    go_enter Tryz.func167, Tryz.ntmps167
    go_upto_region 1 with fail
    generalize hV_ : World.alloc _ _ = V
    have HE_V := hid (show Ext w V by rw [← hV_]; exact exP)
    have HB_bx := hid (show Blk V (w.heap.size) (hL (hR X d)) by rw [← hV_]; exact bkP)
    have HB_bw := hid (show Blk V (w.heap.size + 1) (wdE (g1, g2, g3)) by rw [← hV_]; exact bkP)
    clear hV_
    obtain ⟨bw, hg_bw⟩ : ∃ g, g = w.heap.size + 1 := ⟨_, rfl⟩
    simp only [← hg_bw] at HB_bw ⊢
    obtain ⟨bx, hg_bx⟩ : ∃ g, g = w.heap.size := ⟨_, rfl⟩
    simp only [← hg_bx] at HB_bx ⊢
    have HN_V := hid (show bx = w.heap.size ∧ bw = w.heap.size + 1 ∧ bw < V.heap.size from ⟨hg_bx, hg_bw, HB_bw.out.1⟩)
    clear hg_bx hg_bw
    have x_ref : V.cell? ⟨bx, 3, none⟩ = some (.int .u32 d.ref) := HB_bx.out.2.2 3 _ rfl
    have x_t : V.cell? ⟨bx, 0, none⟩ = some (.int .i64 X.t) := HB_bx.out.2.2 0 _ rfl
    have x_c : V.cell? ⟨bx, 1, none⟩ = some (.int .i64 X.c) := HB_bx.out.2.2 1 _ rfl
    have x_b : V.cell? ⟨bx, 2, none⟩ = some (.int .i64 X.b) := HB_bx.out.2.2 2 _ rfl
    have x_g := HB_bx.out.1
    have w2 : V.cell? ⟨bw, 2, none⟩ = some (.int .u32 g3) := HB_bw.out.2.2 2 _ rfl
    have wg := HB_bw.out.1
    go_wp2_with fail
    refine (who_any g3 H3.out.1 H3.out.2 V).mono ?_
    rintro e w1 ⟨rfl, hx_⟩
    rw [← HQ.out]
    have hE1 : Ext V w1 := hx_
    have HE1 := hid (HE_V.out.trans hE1)
    have HX1 := hid (HB_bx.out.of hE1)
    have HW1 := hid (HB_bw.out.of hE1)
    clear hx_ hE1 x_ref x_t x_c x_b x_g w2 wg HB_bx HB_bw
    have HB_bx := HX1
    have HB_bw := HW1
    clear HX1 HW1
    have x_t : w1.cell? ⟨bx, 0, none⟩ = some (.int .i64 X.t) := HB_bx.out.2.2 0 _ rfl
    have x_c : w1.cell? ⟨bx, 1, none⟩ = some (.int .i64 X.c) := HB_bx.out.2.2 1 _ rfl
    have x_b : w1.cell? ⟨bx, 2, none⟩ = some (.int .i64 X.b) := HB_bx.out.2.2 2 _ rfl
    have x_g := HB_bx.out.1
    go_wp2_with fail
    refine (place_any X.t X.c X.b q HQb.out.1 HQb.out.2 w1 (HS.out.of HE1.out)).mono ?_
    rintro e w2 ⟨rfl, hx_⟩
    rw [← HP1.out]
    have hE1 : Ext w1 w2 := hx_
    have HE2 := hid (HE1.out.trans hE1)
    have HX1 := hid (HB_bx.out.of hE1)
    have HW1 := hid (HB_bw.out.of hE1)
    clear hx_ hE1 x_t x_c x_b x_g HB_bx HB_bw
    have HB_bx := HX1
    have HB_bw := HW1
    clear HX1 HW1
    have x_ref : w2.cell? ⟨bx, 3, none⟩ = some (.int .u32 d.ref) := HB_bx.out.2.2 3 _ rfl
    have x_g := HB_bx.out.1
    have w2_ : w2.cell? ⟨bw, 2, none⟩ = some (.int .u32 g3) := HB_bw.out.2.2 2 _ rfl
    have wg := HB_bw.out.1
    go_wp2_with fail
    go_ret
    exact ⟨rfl, HE2.out⟩
   ·have h1c : (g3 != d.ref) = true := bne_iff_ne.2 h1
    have h2c : (q != 0) = true := bne_iff_ne.2 h2
    have h3b : decide ((0 : Int) ≤ p1) = false := decide_eq_false h3
    have HR := hid (show hpForeign X.t X.c X.b d (g1, g2, g3) = false by unfold hpForeign; dsimp only; rw [← HQ.out, ← HP1.out]; simp [h3])
    rw [HR.out]
    clear hq hp1 h1 h2 h3
    go_enter Tryz.func167, Tryz.ntmps167
    go_upto_region 1 with fail
    generalize hV_ : World.alloc _ _ = V
    have HE_V := hid (show Ext w V by rw [← hV_]; exact exP)
    have HB_bx := hid (show Blk V (w.heap.size) (hL (hR X d)) by rw [← hV_]; exact bkP)
    have HB_bw := hid (show Blk V (w.heap.size + 1) (wdE (g1, g2, g3)) by rw [← hV_]; exact bkP)
    clear hV_
    obtain ⟨bw, hg_bw⟩ : ∃ g, g = w.heap.size + 1 := ⟨_, rfl⟩
    simp only [← hg_bw] at HB_bw ⊢
    obtain ⟨bx, hg_bx⟩ : ∃ g, g = w.heap.size := ⟨_, rfl⟩
    simp only [← hg_bx] at HB_bx ⊢
    have HN_V := hid (show bx = w.heap.size ∧ bw = w.heap.size + 1 ∧ bw < V.heap.size from ⟨hg_bx, hg_bw, HB_bw.out.1⟩)
    clear hg_bx hg_bw
    have x_ref : V.cell? ⟨bx, 3, none⟩ = some (.int .u32 d.ref) := HB_bx.out.2.2 3 _ rfl
    have x_t : V.cell? ⟨bx, 0, none⟩ = some (.int .i64 X.t) := HB_bx.out.2.2 0 _ rfl
    have x_c : V.cell? ⟨bx, 1, none⟩ = some (.int .i64 X.c) := HB_bx.out.2.2 1 _ rfl
    have x_b : V.cell? ⟨bx, 2, none⟩ = some (.int .i64 X.b) := HB_bx.out.2.2 2 _ rfl
    have x_g := HB_bx.out.1
    have w2 : V.cell? ⟨bw, 2, none⟩ = some (.int .u32 g3) := HB_bw.out.2.2 2 _ rfl
    have wg := HB_bw.out.1
    go_wp2_with fail
    refine (who_any g3 H3.out.1 H3.out.2 V).mono ?_
    rintro e w1 ⟨rfl, hx_⟩
    rw [← HQ.out]
    have hE1 : Ext V w1 := hx_
    have HE1 := hid (HE_V.out.trans hE1)
    have HX1 := hid (HB_bx.out.of hE1)
    have HW1 := hid (HB_bw.out.of hE1)
    clear hx_ hE1 x_ref x_t x_c x_b x_g w2 wg HB_bx HB_bw
    have HB_bx := HX1
    have HB_bw := HW1
    clear HX1 HW1
    have x_t : w1.cell? ⟨bx, 0, none⟩ = some (.int .i64 X.t) := HB_bx.out.2.2 0 _ rfl
    have x_c : w1.cell? ⟨bx, 1, none⟩ = some (.int .i64 X.c) := HB_bx.out.2.2 1 _ rfl
    have x_b : w1.cell? ⟨bx, 2, none⟩ = some (.int .i64 X.b) := HB_bx.out.2.2 2 _ rfl
    have x_g := HB_bx.out.1
    go_wp2_with fail
    refine (place_any X.t X.c X.b q HQb.out.1 HQb.out.2 w1 (HS.out.of HE1.out)).mono ?_
    rintro e w2 ⟨rfl, hx_⟩
    rw [← HP1.out]
    have hE1 : Ext w1 w2 := hx_
    have HE2 := hid (HE1.out.trans hE1)
    have HX1 := hid (HB_bx.out.of hE1)
    have HW1 := hid (HB_bw.out.of hE1)
    clear hx_ hE1 x_t x_c x_b x_g HB_bx HB_bw
    have HB_bx := HX1
    have HB_bw := HW1
    clear HX1 HW1
    have x_ref : w2.cell? ⟨bx, 3, none⟩ = some (.int .u32 d.ref) := HB_bx.out.2.2 3 _ rfl
    have x_g := HB_bx.out.1
    have w2_ : w2.cell? ⟨bw, 2, none⟩ = some (.int .u32 g3) := HB_bw.out.2.2 2 _ rfl
    have wg := HB_bw.out.1
    go_wp2_with fail
    go_ret
    exact ⟨rfl, HE2.out⟩
open Go.ChangeShapes Go.WideShapes Go.RowKit Go.Deep Go.Joins
section
variable {H : Type} {enc : TypeId × Value → H} {P : Program} {w : World} {base : Nat} {spare : Nat → Bool} {held : Bool}
end
section
variable {H : Type} {enc : TypeId × Value → H} {w : World} {base : Nat} {spare : Nat → Bool} {held : Bool}
theorem wf_u32 {x : Int} (h : (Lit.int .u32 x).wf = true) : 0 ≤ x ∧ x ≤ 4294967295 := by
 have h1 : IntKind.u32.min = 0 := rfl
 have h2 : IntKind.u32.max = 4294967295 := rfl
 simp only [Lit.wf, Bool.and_eq_true, decide_eq_true_eq] at h
 omega
def WdOk (x : Wd) : Prop := (-9223372036854775808 ≤ x.1 ∧ x.1 ≤ 9223372036854775807) ∧ (0 ≤ x.2.1 ∧ x.2.1 ≤ 4294967295) ∧ (0 ≤ x.2.2 ∧ x.2.2 ≤ 4294967295)
end
end Go.Proofs.YtiacdohaiidehaaGreatDoor
