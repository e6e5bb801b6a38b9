/- Walks of package help: flush, decide, install. -/
import Derived.Test.YtiacdohaiidehaaGreatDoorPk31
namespace Go.Proofs.YtiacdohaiidehaaGreatDoor
set_option linter.unusedSimpArgs false
set_option linter.unusedVariables false
open Go.RowKit
theorem es_len {w : World} {X : HX} {d : Hd} (he : Sl w 6 enE X.es d.es) : ∃ (ea : Option Addr) (ec n : Nat), n = d.es.length ∧ X.es = .slice ea n ec := by
 obtain ⟨ea, ec, hv, _⟩ := he
 exact ⟨ea, ec, _, rfl, hv⟩
theorem bhV_ne {n : Nat} (h : n ≠ 0) : bhV n = phV n := if_neg h
theorem hx_nil {X : HX} (h : X.inn = .nilIface) : { X with inn := .nilIface } = X := by
 obtain ⟨_, _, _, _, _, _, _⟩ := X; cases h; rfl
theorem hp_end' {X : HX} (ho : X.One) (hn : X.inn = .nilIface) (d : Hd) (v : Int) (w : World) :
 Calls Tryz.prog 88 #[.agg (hL (hR X d)).toArray, .int .i64 v] w fun e w' => e = .returned (.tuple #[.agg (hL (hR X (hpEnd d v).1)).toArray, .agg (a8E (hpEnd d v).2.1).toArray, .bool (hpEnd d v).2.2]) ∧ Ext w w' := by
 have h := hp_end ho d v w
 rw [hx_nil hn] at h
 exact h
theorem iq_of {d : Hd} (hd : HdN d) : ∃ iq : Nat, iq = d.i + 1 ∧ wrap64 ((d.i : Int) + 1) = (iq : Int) := ⟨d.i + 1, rfl, by rw [IntWalk.wrap64_in _ (by have := hd.i; have := hd.es; omega)]; omega⟩
set_option maxRecDepth 100000 in
set_option maxHeartbeats 1000000 in
theorem hp_flushed {X : HX} (ho : X.One) (d : Hd) (hd : HdN d) (hb : d.bh ≠ 0) (g : Gt) (w : World) (he : Sl w 6 enE X.es d.es) :
 Calls Tryz.prog 174 #[.agg (hL (hR X d)).toArray, .agg (gtE g).toArray] w fun e w' => e = .returned (.tuple #[.agg (hL (hR X (hpFlushed d).1)).toArray, .agg (a8E (hpFlushed d).2.1).toArray, .bool (hpFlushed d).2.2]) ∧ Ext w w' := by
 have HO := hid ho
 clear ho
 have HEs := hid he
 by_cases hi : d.i = d.es.length
 ·have HR := hid (show hpFlushed d = hpAsk d syncA d.bh from if_pos hi)
  rw [HR.out]
  obtain ⟨ea, ec, n, hn, hv⟩ := es_len he
  have HVE := hid hv
  have hin : (d.i : Int) = (n : Int) := by omega
  clear hd he hi hn hv
  go_enter Tryz.func174, Tryz.ntmps174
  go_upto_region 1 with fail
  generalize hV_ : World.alloc _ _ = V
  have HE_V := hid (show Ext w V by rw [← hV_]; exact exP)
  have HB_bx := hid (show Blk V (w.heap.size) (hL (hR X d)) by rw [← hV_]; exact bkP)
  have HB_bg := hid (show Blk V (w.heap.size + 1) (gtE g) by rw [← hV_]; exact bkP)
  have HB_br := hid (show Blk V (w.heap.size + 1 + 1) zH by rw [← hV_]; exact bkP)
  have HB_ba := hid (show Blk V (w.heap.size + 1 + 1 + 1) [.int .i64 0, .int .i64 0, .int .i64 0, .int .u32 0, .int .u32 0, .int .i64 0, .int .u32 0, .int .u32 0] by rw [← hV_]; exact bkP)
  clear hV_
  obtain ⟨ba, hg_ba⟩ : ∃ g, g = w.heap.size + 1 + 1 + 1 := ⟨_, rfl⟩
  simp only [← hg_ba] at HB_ba ⊢
  obtain ⟨br, hg_br⟩ : ∃ g, g = w.heap.size + 1 + 1 := ⟨_, rfl⟩
  simp only [← hg_br] at HB_br ⊢
  obtain ⟨bg, hg_bg⟩ : ∃ g, g = w.heap.size + 1 := ⟨_, rfl⟩
  simp only [← hg_bg] at HB_bg ⊢
  obtain ⟨bx, hg_bx⟩ : ∃ g, g = w.heap.size := ⟨_, rfl⟩
  simp only [← hg_bx] at HB_bx ⊢
  have HN_V := hid (show bx = w.heap.size ∧ bg = w.heap.size + 1 ∧ br = w.heap.size + 1 + 1 ∧ ba = w.heap.size + 1 + 1 + 1 ∧ ba < V.heap.size from ⟨hg_bx, hg_bg, hg_br, hg_ba, HB_ba.out.1⟩)
  clear hg_bx hg_bg hg_br hg_ba
  have x_i : V.cell? ⟨bx, 12, none⟩ = some (.int .i64 (d.i : Int)) := HB_bx.out.2.2 12 _ rfl
  have x_g := HB_bx.out.1
  have x_es : V.cell? ⟨bx, 11, none⟩ = some (.slice ea n ec) := by rw [← HVE.out]; exact HB_bx.out.2.2 11 _ rfl
  have x_bh : V.cell? ⟨bx, 20, none⟩ = some (phV d.bh) := by rw [← bhV_ne hb]; exact HB_bx.out.2.2 20 _ rfl
  clear hb
  go_wp2_with (first | (refine ld_blk rfl 106 _ rfl rfl _ HB_bx.out Tryz.underlying106 rfl Tryz.hInfo ?_))
  clear x_i x_g
  clear x_es x_bh
  refine (hp_ask HO.out d syncA d.bh V).mono ?_
  rintro e w1 ⟨rfl, he⟩
  have HE1 := hid (HE_V.out.trans he)
  have HBr := hid (HB_br.out.of he)
  have HBa := hid (HB_ba.out.of he)
  clear he
  go_wp2_with (first | (refine st_blk rfl 106 _ _ rfl rfl rfl HBr.out rfl Tryz.hInfo (Hr.One.all (hR_one HO.out _)) ?_; intro W1 hb1 hg1) | (refine st_blk rfl 46 _ _ rfl rfl rfl (HBa.out.grl hg1 (by have h1 := HN_V.out; simp; omega)) rfl Tryz.aInfo (a8E_one' _) ?_; intro W2 hb2 hg2))
  exact bodyPost_ret (res3 Tryz.results174 rfl rfl rfl (hb1.grl hg2 (by have h1 := HN_V.out; simp; omega)) hb2 Tryz.underlying106 rfl Tryz.hInfo Tryz.underlying46 rfl Tryz.aInfo) rfl ⟨rfl, (HE1.out.grl hg1 (by have h1 := HN_V.out; simp; omega)).grl hg2 (by have h1 := HN_V.out; simp; omega)⟩
 ·obtain ⟨iq, hiq, hwi⟩ := iq_of hd
  have hl : d.i < d.es.length := by have := hd.i; omega
  have HR := hid (show hpFlushed d = hpAsk { d with i := iq } (flushA d.cur.loc) 9 by rw [hiq]; exact if_neg hi)
  rw [HR.out]
  obtain ⟨ea, ec, n, hn, hv⟩ := es_len he
  have HVE := hid hv
  have hin : ¬ (d.i : Int) = (n : Int) := by omega
  have HL := hid hl
  clear hd he hi hn hv hl hiq hb
  go_enter Tryz.func174, Tryz.ntmps174
  go_upto_region 1 with fail
  generalize hV_ : World.alloc _ _ = V
  have HE_V := hid (show Ext w V by rw [← hV_]; exact exP)
  have HB_bx := hid (show Blk V (w.heap.size) (hL (hR X d)) by rw [← hV_]; exact bkP)
  have HB_bg := hid (show Blk V (w.heap.size + 1) (gtE g) by rw [← hV_]; exact bkP)
  have HB_br := hid (show Blk V (w.heap.size + 1 + 1) zH by rw [← hV_]; exact bkP)
  have HB_ba := hid (show Blk V (w.heap.size + 1 + 1 + 1) [.int .i64 0, .int .i64 0, .int .i64 0, .int .u32 0, .int .u32 0, .int .i64 0, .int .u32 0, .int .u32 0] by rw [← hV_]; exact bkP)
  clear hV_
  obtain ⟨ba, hg_ba⟩ : ∃ g, g = w.heap.size + 1 + 1 + 1 := ⟨_, rfl⟩
  simp only [← hg_ba] at HB_ba ⊢
  obtain ⟨br, hg_br⟩ : ∃ g, g = w.heap.size + 1 + 1 := ⟨_, rfl⟩
  simp only [← hg_br] at HB_br ⊢
  obtain ⟨bg, hg_bg⟩ : ∃ g, g = w.heap.size + 1 := ⟨_, rfl⟩
  simp only [← hg_bg] at HB_bg ⊢
  obtain ⟨bx, hg_bx⟩ : ∃ g, g = w.heap.size := ⟨_, rfl⟩
  simp only [← hg_bx] at HB_bx ⊢
  have HN_V := hid (show bx = w.heap.size ∧ bg = w.heap.size + 1 ∧ br = w.heap.size + 1 + 1 ∧ ba = w.heap.size + 1 + 1 + 1 ∧ ba < V.heap.size from ⟨hg_bx, hg_bg, hg_br, hg_ba, HB_ba.out.1⟩)
  clear hg_bx hg_bg hg_br hg_ba
  have x_i : V.cell? ⟨bx, 12, none⟩ = some (.int .i64 (d.i : Int)) := HB_bx.out.2.2 12 _ rfl
  have x_g := HB_bx.out.1
  have x_es : V.cell? ⟨bx, 11, none⟩ = some (.slice ea n ec) := by rw [← HVE.out]; exact HB_bx.out.2.2 11 _ rfl
  go_upto_region 3 with fail
  go_wp2_with (first | (refine ld_blk rfl 106 _ rfl rfl _ HB_bx.out Tryz.underlying106 rfl Tryz.hInfo ?_))
  refine (hp_place d V (HEs.out.of enE_len HE_V.out) HL.out).mono ?_
  rintro e w3 ⟨rfl, he⟩
  have HE3 := hid (HE_V.out.trans he)
  have HX3 := hid (HB_bx.out.of he)
  have HBr3 := hid (HB_br.out.of he)
  have HBa3 := hid (HB_ba.out.of he)
  clear he x_i x_g x_es
  have x_i : w3.cell? ⟨bx, 12, none⟩ = some (.int .i64 (d.i : Int)) := HX3.out.2.2 12 _ rfl
  have x_g := HX3.out.1
  have x_f := HX3.out.2.1
  go_upto_region 5 with fail
  generalize hZ_ : World.setCell _ _ _ = U
  have HG_U := hid (show GrL [bx] w3 U by rw [← hZ_]; exact glP)
  have HB_bx2 := hid (show Blk U bx (hL (hR X { d with i := iq })) by rw [← hZ_]; exact HX3.out.set 12 (of_decide_eq_true rfl) _)
  clear hZ_ x_i x_g x_f HB_bx HX3 hin hwi
  have HB_bx := HB_bx2
  have HE_U := hid (HE3.out.grl HG_U.out (by have h1 := HN_V.out; simp; omega))
  clear HB_br HB_ba
  have HB_br := hid (HBr3.out.grl HG_U.out (by have h1 := HN_V.out; simp; omega))
  have HB_ba := hid (HBa3.out.grl HG_U.out (by have h1 := HN_V.out; simp; omega))
  go_wp2_with (first | (refine ld_blk rfl 106 _ rfl rfl _ HB_bx.out Tryz.underlying106 rfl Tryz.hInfo ?_))
  refine (hp_ask HO.out { d with i := iq } (flushA d.cur.loc) 9 U).mono ?_
  rintro e w1 ⟨rfl, he⟩
  have HE1 := hid (HE_U.out.trans he)
  have HBr := hid (HB_br.out.of he)
  have HBa := hid (HB_ba.out.of he)
  clear he
  go_wp2_with (first | (refine st_blk rfl 106 _ _ rfl rfl rfl HBr.out rfl Tryz.hInfo (Hr.One.all (hR_one HO.out _)) ?_; intro W1 hb1 hg1) | (refine st_blk rfl 46 _ _ rfl rfl rfl (HBa.out.grl hg1 (by have h1 := HN_V.out; simp; omega)) rfl Tryz.aInfo (a8E_one' _) ?_; intro W2 hb2 hg2))
  exact bodyPost_ret (res3 Tryz.results174 rfl rfl rfl (hb1.grl hg2 (by have h1 := HN_V.out; simp; omega)) hb2 Tryz.underlying106 rfl Tryz.hInfo Tryz.underlying46 rfl Tryz.aInfo) rfl ⟨rfl, (HE1.out.grl hg1 (by have h1 := HN_V.out; simp; omega)).grl hg2 (by have h1 := HN_V.out; simp; omega)⟩
set_option maxRecDepth 100000 in
set_option maxHeartbeats 1000000 in
theorem hp_flush {X : HX} (ho : X.One) (d : Hd) (hd : HdN d) (p : Nat) (hp : p = 10 ∨ p = 17) (w : World) (he : Sl w 6 enE X.es d.es) :
 Calls Tryz.prog 165 #[.agg (hL (hR X d)).toArray, phV p] w fun e w' => e = .returned (.tuple #[.agg (hL (hR X (hpFlush d p).1)).toArray, .agg (a8E (hpFlush d p).2.1).toArray, .bool (hpFlush d p).2.2]) ∧ Ext w w' := by
 have HO := hid ho
 clear ho
 have HEs := hid he
 have HDn := hid (show HdN { d with i := 0, bh := p } from ⟨hd.seq, hd.ref, hd.at_, hd.who, hd.most, Nat.zero_le _, hd.es, hd.ws, hd.many⟩)
 have HPn := hid (show p ≠ 0 by omega)
 have HPb := hid (show bhV p = phV p from bhV_ne HPn.out)
 clear hd he hp
 go_enter Tryz.func165, Tryz.ntmps165
 go_upto_region 1 with fail
 generalize hV_ : World.alloc _ _ = V
 have HE_V := hid (show Ext w V by rw [← hV_]; exact exP)
 have HB_bx := hid (show Blk V (w.heap.size) (hL (hR X d)) by rw [← hV_]; exact bkP)
 have HB_br := hid (show Blk V (w.heap.size + 1) zH by rw [← hV_]; exact bkP)
 have HB_ba := hid (show Blk V (w.heap.size + 1 + 1) [.int .i64 0, .int .i64 0, .int .i64 0, .int .u32 0, .int .u32 0, .int .i64 0, .int .u32 0, .int .u32 0] by rw [← hV_]; exact bkP)
 clear hV_
 obtain ⟨ba, hg_ba⟩ : ∃ g, g = w.heap.size + 1 + 1 := ⟨_, rfl⟩
 simp only [← hg_ba] at HB_ba ⊢
 obtain ⟨br, hg_br⟩ : ∃ g, g = w.heap.size + 1 := ⟨_, rfl⟩
 simp only [← hg_br] at HB_br ⊢
 obtain ⟨bx, hg_bx⟩ : ∃ g, g = w.heap.size := ⟨_, rfl⟩
 simp only [← hg_bx] at HB_bx ⊢
 have HN_V := hid (show bx = w.heap.size ∧ br = w.heap.size + 1 ∧ ba = w.heap.size + 1 + 1 ∧ ba < V.heap.size from ⟨hg_bx, hg_br, hg_ba, HB_ba.out.1⟩)
 clear hg_bx hg_br hg_ba
 have x_i : V.cell? ⟨bx, 12, none⟩ = some (.int .i64 (d.i : Int)) := HB_bx.out.2.2 12 _ rfl
 have x_g := HB_bx.out.1
 have x_f := HB_bx.out.2.1
 go_upto_region 2 with (refine st_fld rfl _ _ _ rfl rfl rfl (HB_bx.out.set 12 (of_decide_eq_true rfl) (.int .i64 0)) (of_decide_eq_true rfl) (by kernel_rfl) (phV_one p) ?_; intro U hb_ hg_)
 have HG_U := hid (show GrL [bx] V U from (GrL.refl.set (List.mem_singleton.2 rfl) _).trans hg_)
 have HB_bx2 := hid (show Blk U bx (hL (hR X { d with i := 0, bh := p })) by
  have h := hb_
  rw [← HPb.out] at h
  exact h)
 clear hb_ hg_ x_i x_g x_f HB_bx
 have HB_bx := HB_bx2
 have HE_U := hid (HE_V.out.grl HG_U.out (by have h1 := HN_V.out; simp; omega))
 have HB_br2 := hid (HB_br.out.grl HG_U.out (by have h1 := HN_V.out; simp; omega))
 have HB_ba2 := hid (HB_ba.out.grl HG_U.out (by have h1 := HN_V.out; simp; omega))
 clear HB_br HB_ba
 have HB_br := HB_br2
 have HB_ba := HB_ba2
 have HEU := hid (show Sl U 6 enE X.es d.es from HEs.out.of enE_len HE_U.out)
 go_wp2_with (first | (refine ld_blk rfl 106 _ rfl rfl _ HB_bx.out Tryz.underlying106 rfl Tryz.hInfo ?_))
 refine (hp_flushed HO.out { d with i := 0, bh := p } HDn.out HPn.out ((0, 0, 0), false) U HEU.out).mono ?_
 rintro e w1 ⟨rfl, he⟩
 have HE1 := hid (HE_U.out.trans he)
 have HBr := hid (HB_br.out.of he)
 have HBa := hid (HB_ba.out.of he)
 clear he
 go_wp2_with (first | (refine st_blk rfl 106 _ _ rfl rfl rfl HBr.out rfl Tryz.hInfo (Hr.One.all (hR_one HO.out _)) ?_; intro W1 hb1 hg1) | (refine st_blk rfl 46 _ _ rfl rfl rfl (HBa.out.grl hg1 (by have h1 := HN_V.out; simp; omega)) rfl Tryz.aInfo (a8E_one' _) ?_; intro W2 hb2 hg2))
 exact bodyPost_ret (res3 Tryz.results165 rfl rfl rfl (hb1.grl hg2 (by have h1 := HN_V.out; simp; omega)) hb2 Tryz.underlying106 rfl Tryz.hInfo Tryz.underlying46 rfl Tryz.aInfo) rfl ⟨rfl, (HE1.out.grl hg1 (by have h1 := HN_V.out; simp; omega)).grl hg2 (by have h1 := HN_V.out; simp; omega)⟩
set_option maxRecDepth 100000 in
set_option maxHeartbeats 1000000 in
theorem hp_decide {X : HX} (ho : X.One) (d : Hd) (hd : HdN d) (v : Int) (hv : v = 1 ∨ v = 2) (w : World) (he : Sl w 6 enE X.es d.es) :
 Calls Tryz.prog 148 #[.agg (hL (hR X d)).toArray, .int .i64 v] w fun e w' => e = .returned (.tuple #[.agg (hL (hR X (hpDecide X.dur d v).1)).toArray, .agg (a8E (hpDecide X.dur d v).2.1).toArray, .bool (hpDecide X.dur d v).2.2]) ∧ Ext w w' := by
 have HO := hid ho
 clear ho
 have HEs := hid he
 have HDn := hid (show HdN { d with vd := v } from ⟨hd.seq, hd.ref, hd.at_, hd.who, hd.most, hd.i, hd.es, hd.ws, hd.many⟩)
 have HVd := hid hv
 clear hd he
 by_cases h1 : v = 1 ∧ X.dur = true
 ·obtain ⟨hv1, hdu⟩ := h1
  subst hv1
  have HDu := hid hdu
  have HR := hid (show hpDecide X.dur d 1 = hpFlush { d with vd := 1 } 10 by rw [hdu]; rfl)
  rw [HR.out]
  clear hv hdu
  go_enter Tryz.func148, Tryz.ntmps148
  go_upto_region 1 with fail
  generalize hV_ : World.alloc _ _ = V
  have HE_V := hid (show Ext w V by rw [← hV_]; exact exP)
  have HB_bx := hid (show Blk V (w.heap.size) (hL (hR X d)) by rw [← hV_]; exact bkP)
  have HB_br := hid (show Blk V (w.heap.size + 1) zH by rw [← hV_]; exact bkP)
  have HB_ba := hid (show Blk V (w.heap.size + 1 + 1) [.int .i64 0, .int .i64 0, .int .i64 0, .int .u32 0, .int .u32 0, .int .i64 0, .int .u32 0, .int .u32 0] by rw [← hV_]; exact bkP)
  clear hV_
  obtain ⟨ba, hg_ba⟩ : ∃ g, g = w.heap.size + 1 + 1 := ⟨_, rfl⟩
  simp only [← hg_ba] at HB_ba ⊢
  obtain ⟨br, hg_br⟩ : ∃ g, g = w.heap.size + 1 := ⟨_, rfl⟩
  simp only [← hg_br] at HB_br ⊢
  obtain ⟨bx, hg_bx⟩ : ∃ g, g = w.heap.size := ⟨_, rfl⟩
  simp only [← hg_bx] at HB_bx ⊢
  have HN_V := hid (show bx = w.heap.size ∧ br = w.heap.size + 1 ∧ ba = w.heap.size + 1 + 1 ∧ ba < V.heap.size from ⟨hg_bx, hg_br, hg_ba, HB_ba.out.1⟩)
  clear hg_bx hg_br hg_ba
  have x_vd : V.cell? ⟨bx, 13, none⟩ = some (.int .i64 d.vd) := HB_bx.out.2.2 13 _ rfl
  have x_g := HB_bx.out.1
  have x_f := HB_bx.out.2.1
  go_upto_region 2 with fail
  generalize hZ_ : World.setCell _ _ _ = U
  have HG_U := hid (show GrL [bx] V U by rw [← hZ_]; exact glP)
  have HB_bx2 := hid (show Blk U bx (hL (hR X { d with vd := 1 })) by rw [← hZ_]; exact HB_bx.out.set 13 (of_decide_eq_true rfl) _)
  clear hZ_ x_vd x_g x_f HB_bx
  have HB_bx := HB_bx2
  have HE_U := hid (HE_V.out.grl HG_U.out (by have h1 := HN_V.out; simp; omega))
  have HB_br2 := hid (HB_br.out.grl HG_U.out (by have h1 := HN_V.out; simp; omega))
  have HB_ba2 := hid (HB_ba.out.grl HG_U.out (by have h1 := HN_V.out; simp; omega))
  clear HB_br HB_ba
  have HB_br := HB_br2
  have HB_ba := HB_ba2
  have HEU := hid (show Sl U 6 enE X.es d.es from HEs.out.of enE_len HE_U.out)
  have x_g := HB_bx.out.1
  have x_dur : U.cell? ⟨bx, 8, none⟩ = some (.bool true) := by rw [← HDu.out]; exact HB_bx.out.2.2 8 _ rfl
  go_wp2_with (first | (refine ld_blk rfl 106 _ rfl rfl _ HB_bx.out Tryz.underlying106 rfl Tryz.hInfo ?_))
  clear x_dur x_g
  refine (hp_flush HO.out { d with vd := 1 } HDn.out 10 (.inl rfl) U HEU.out).mono ?_
  rintro e w1 ⟨rfl, he⟩
  have HE1 := hid (HE_U.out.trans he)
  have HBr := hid (HB_br.out.of he)
  have HBa := hid (HB_ba.out.of he)
  clear he
  go_wp2_with (first | (refine st_blk rfl 106 _ _ rfl rfl rfl HBr.out rfl Tryz.hInfo (Hr.One.all (hR_one HO.out _)) ?_; intro W1 hb1 hg1) | (refine st_blk rfl 46 _ _ rfl rfl rfl (HBa.out.grl hg1 (by have h1 := HN_V.out; simp; omega)) rfl Tryz.aInfo (a8E_one' _) ?_; intro W2 hb2 hg2))
  exact bodyPost_ret (res3 Tryz.results148 rfl rfl rfl (hb1.grl hg2 (by have h1 := HN_V.out; simp; omega)) hb2 Tryz.underlying106 rfl Tryz.hInfo Tryz.underlying46 rfl Tryz.aInfo) rfl ⟨rfl, (HE1.out.grl hg1 (by have h1 := HN_V.out; simp; omega)).grl hg2 (by have h1 := HN_V.out; simp; omega)⟩
 ·have HR := hid (show hpDecide X.dur d v = hpSettle { d with vd := v } from if_neg h1)
  rw [HR.out]
  rcases hv with hv | hv
  ·subst hv
   have hdu : X.dur = false := by
    cases h : X.dur
    ·rfl
    ·exact absurd ⟨rfl, h⟩ h1
   have HDu := hid hdu
   clear hdu h1
   go_enter Tryz.func148, Tryz.ntmps148
   go_upto_region 1 with fail
   generalize hV_ : World.alloc _ _ = V
   have HE_V := hid (show Ext w V by rw [← hV_]; exact exP)
   have HB_bx := hid (show Blk V (w.heap.size) (hL (hR X d)) by rw [← hV_]; exact bkP)
   have HB_br := hid (show Blk V (w.heap.size + 1) zH by rw [← hV_]; exact bkP)
   have HB_ba := hid (show Blk V (w.heap.size + 1 + 1) [.int .i64 0, .int .i64 0, .int .i64 0, .int .u32 0, .int .u32 0, .int .i64 0, .int .u32 0, .int .u32 0] by rw [← hV_]; exact bkP)
   clear hV_
   obtain ⟨ba, hg_ba⟩ : ∃ g, g = w.heap.size + 1 + 1 := ⟨_, rfl⟩
   simp only [← hg_ba] at HB_ba ⊢
   obtain ⟨br, hg_br⟩ : ∃ g, g = w.heap.size + 1 := ⟨_, rfl⟩
   simp only [← hg_br] at HB_br ⊢
   obtain ⟨bx, hg_bx⟩ : ∃ g, g = w.heap.size := ⟨_, rfl⟩
   simp only [← hg_bx] at HB_bx ⊢
   have HN_V := hid (show bx = w.heap.size ∧ br = w.heap.size + 1 ∧ ba = w.heap.size + 1 + 1 ∧ ba < V.heap.size from ⟨hg_bx, hg_br, hg_ba, HB_ba.out.1⟩)
   clear hg_bx hg_br hg_ba
   have x_vd : V.cell? ⟨bx, 13, none⟩ = some (.int .i64 d.vd) := HB_bx.out.2.2 13 _ rfl
   have x_g := HB_bx.out.1
   have x_f := HB_bx.out.2.1
   go_upto_region 2 with fail
   generalize hZ_ : World.setCell _ _ _ = U
   have HG_U := hid (show GrL [bx] V U by rw [← hZ_]; exact glP)
   have HB_bx2 := hid (show Blk U bx (hL (hR X { d with vd := 1 })) by rw [← hZ_]; exact HB_bx.out.set 13 (of_decide_eq_true rfl) _)
   clear hZ_ x_vd x_g x_f HB_bx
   have HB_bx := HB_bx2
   have HE_U := hid (HE_V.out.grl HG_U.out (by have h1 := HN_V.out; simp; omega))
   have HB_br2 := hid (HB_br.out.grl HG_U.out (by have h1 := HN_V.out; simp; omega))
   have HB_ba2 := hid (HB_ba.out.grl HG_U.out (by have h1 := HN_V.out; simp; omega))
   clear HB_br HB_ba
   have HB_br := HB_br2
   have HB_ba := HB_ba2
   have HEU := hid (show Sl U 6 enE X.es d.es from HEs.out.of enE_len HE_U.out)
   have x_g := HB_bx.out.1
   have x_dur : U.cell? ⟨bx, 8, none⟩ = some (.bool false) := by rw [← HDu.out]; exact HB_bx.out.2.2 8 _ rfl
   go_wp2_with (first | (refine ld_blk rfl 106 _ rfl rfl _ HB_bx.out Tryz.underlying106 rfl Tryz.hInfo ?_))
   clear x_dur x_g
   refine (hp_settle HO.out { d with vd := 1 } HDn.out (.inl rfl) ((0, 0, 0), false) U).mono ?_
   rintro e w1 ⟨rfl, he⟩
   have HE1 := hid (HE_U.out.trans he)
   have HBr := hid (HB_br.out.of he)
   have HBa := hid (HB_ba.out.of he)
   clear he
   go_wp2_with (first | (refine st_blk rfl 106 _ _ rfl rfl rfl HBr.out rfl Tryz.hInfo (Hr.One.all (hR_one HO.out _)) ?_; intro W1 hb1 hg1) | (refine st_blk rfl 46 _ _ rfl rfl rfl (HBa.out.grl hg1 (by have h1 := HN_V.out; simp; omega)) rfl Tryz.aInfo (a8E_one' _) ?_; intro W2 hb2 hg2))
   exact bodyPost_ret (res3 Tryz.results148 rfl rfl rfl (hb1.grl hg2 (by have h1 := HN_V.out; simp; omega)) hb2 Tryz.underlying106 rfl Tryz.hInfo Tryz.underlying46 rfl Tryz.aInfo) rfl ⟨rfl, (HE1.out.grl hg1 (by have h1 := HN_V.out; simp; omega)).grl hg2 (by have h1 := HN_V.out; simp; omega)⟩
  ·subst hv
   clear h1
   go_enter Tryz.func148, Tryz.ntmps148
   go_upto_region 1 with fail
   generalize hV_ : World.alloc _ _ = V
   have HE_V := hid (show Ext w V by rw [← hV_]; exact exP)
   have HB_bx := hid (show Blk V (w.heap.size) (hL (hR X d)) by rw [← hV_]; exact bkP)
   have HB_br := hid (show Blk V (w.heap.size + 1) zH by rw [← hV_]; exact bkP)
   have HB_ba := hid (show Blk V (w.heap.size + 1 + 1) [.int .i64 0, .int .i64 0, .int .i64 0, .int .u32 0, .int .u32 0, .int .i64 0, .int .u32 0, .int .u32 0] by rw [← hV_]; exact bkP)
   clear hV_
   obtain ⟨ba, hg_ba⟩ : ∃ g, g = w.heap.size + 1 + 1 := ⟨_, rfl⟩
   simp only [← hg_ba] at HB_ba ⊢
   obtain ⟨br, hg_br⟩ : ∃ g, g = w.heap.size + 1 := ⟨_, rfl⟩
   simp only [← hg_br] at HB_br ⊢
   obtain ⟨bx, hg_bx⟩ : ∃ g, g = w.heap.size := ⟨_, rfl⟩
   simp only [← hg_bx] at HB_bx ⊢
   have HN_V := hid (show bx = w.heap.size ∧ br = w.heap.size + 1 ∧ ba = w.heap.size + 1 + 1 ∧ ba < V.heap.size from ⟨hg_bx, hg_br, hg_ba, HB_ba.out.1⟩)
   clear hg_bx hg_br hg_ba
   have x_vd : V.cell? ⟨bx, 13, none⟩ = some (.int .i64 d.vd) := HB_bx.out.2.2 13 _ rfl
   have x_g := HB_bx.out.1
   have x_f := HB_bx.out.2.1
   go_upto_region 2 with fail
   generalize hZ_ : World.setCell _ _ _ = U
   have HG_U := hid (show GrL [bx] V U by rw [← hZ_]; exact glP)
   have HB_bx2 := hid (show Blk U bx (hL (hR X { d with vd := 2 })) by rw [← hZ_]; exact HB_bx.out.set 13 (of_decide_eq_true rfl) _)
   clear hZ_ x_vd x_g x_f HB_bx
   have HB_bx := HB_bx2
   have HE_U := hid (HE_V.out.grl HG_U.out (by have h1 := HN_V.out; simp; omega))
   have HB_br2 := hid (HB_br.out.grl HG_U.out (by have h1 := HN_V.out; simp; omega))
   have HB_ba2 := hid (HB_ba.out.grl HG_U.out (by have h1 := HN_V.out; simp; omega))
   clear HB_br HB_ba
   have HB_br := HB_br2
   have HB_ba := HB_ba2
   have HEU := hid (show Sl U 6 enE X.es d.es from HEs.out.of enE_len HE_U.out)
   have x_g := HB_bx.out.1
   go_wp2_with (first | (refine ld_blk rfl 106 _ rfl rfl _ HB_bx.out Tryz.underlying106 rfl Tryz.hInfo ?_))
   clear x_g
   refine (hp_settle HO.out { d with vd := 2 } HDn.out (.inr rfl) ((0, 0, 0), false) U).mono ?_
   rintro e w1 ⟨rfl, he⟩
   have HE1 := hid (HE_U.out.trans he)
   have HBr := hid (HB_br.out.of he)
   have HBa := hid (HB_ba.out.of he)
   clear he
   go_wp2_with (first | (refine st_blk rfl 106 _ _ rfl rfl rfl HBr.out rfl Tryz.hInfo (Hr.One.all (hR_one HO.out _)) ?_; intro W1 hb1 hg1) | (refine st_blk rfl 46 _ _ rfl rfl rfl (HBa.out.grl hg1 (by have h1 := HN_V.out; simp; omega)) rfl Tryz.aInfo (a8E_one' _) ?_; intro W2 hb2 hg2))
   exact bodyPost_ret (res3 Tryz.results148 rfl rfl rfl (hb1.grl hg2 (by have h1 := HN_V.out; simp; omega)) hb2 Tryz.underlying106 rfl Tryz.hInfo Tryz.underlying46 rfl Tryz.aInfo) rfl ⟨rfl, (HE1.out.grl hg1 (by have h1 := HN_V.out; simp; omega)).grl hg2 (by have h1 := HN_V.out; simp; omega)⟩
set_option maxRecDepth 100000 in
set_option maxHeartbeats 1000000 in
theorem hp_install {X : HX} (ho : X.One) (d : Hd) (hd : HdN d) (w : World) (he : Sl w 6 enE X.es d.es) :
 Calls Tryz.prog 135 #[.agg (hL (hR X d)).toArray] w fun e w' => e = .returned (.tuple #[.agg (hL (hR X (hpInstall X.dur d).1)).toArray, .agg (a8E (hpInstall X.dur d).2.1).toArray, .bool (hpInstall X.dur d).2.2]) ∧ Ext w w' := by
 have HO := hid ho
 clear ho
 have HEs := hid he
 have HDn := hid hd
 by_cases hi : d.i = d.es.length
 ·have HR := hid (show hpInstall X.dur d = hpDecide X.dur d 1 from if_pos hi)
  rw [HR.out]
  obtain ⟨ea, ec, n, hn, hv⟩ := es_len he
  have HVE := hid hv
  have hin : (d.i : Int) = (n : Int) := by omega
  clear hd he hi hn hv
  go_enter Tryz.func135, Tryz.ntmps135
  go_upto_region 1 with fail
  generalize hV_ : World.alloc _ _ = V
  have HE_V := hid (show Ext w V by rw [← hV_]; exact exP)
  have HB_bx := hid (show Blk V (w.heap.size) (hL (hR X d)) by rw [← hV_]; exact bkP)
  have HB_br := hid (show Blk V (w.heap.size + 1) zH by rw [← hV_]; exact bkP)
  have HB_ba := hid (show Blk V (w.heap.size + 1 + 1) [.int .i64 0, .int .i64 0, .int .i64 0, .int .u32 0, .int .u32 0, .int .i64 0, .int .u32 0, .int .u32 0] by rw [← hV_]; exact bkP)
  clear hV_
  obtain ⟨ba, hg_ba⟩ : ∃ g, g = w.heap.size + 1 + 1 := ⟨_, rfl⟩
  simp only [← hg_ba] at HB_ba ⊢
  obtain ⟨br, hg_br⟩ : ∃ g, g = w.heap.size + 1 := ⟨_, rfl⟩
  simp only [← hg_br] at HB_br ⊢
  obtain ⟨bx, hg_bx⟩ : ∃ g, g = w.heap.size := ⟨_, rfl⟩
  simp only [← hg_bx] at HB_bx ⊢
  have HN_V := hid (show bx = w.heap.size ∧ br = w.heap.size + 1 ∧ ba = w.heap.size + 1 + 1 ∧ ba < V.heap.size from ⟨hg_bx, hg_br, hg_ba, HB_ba.out.1⟩)
  clear hg_bx hg_br hg_ba
  have x_i : V.cell? ⟨bx, 12, none⟩ = some (.int .i64 (d.i : Int)) := HB_bx.out.2.2 12 _ rfl
  have x_g := HB_bx.out.1
  have x_es : V.cell? ⟨bx, 11, none⟩ = some (.slice ea n ec) := by rw [← HVE.out]; exact HB_bx.out.2.2 11 _ rfl
  have HEU := hid (show Sl V 6 enE X.es d.es from HEs.out.of enE_len HE_V.out)
  go_wp2_with (first | (refine ld_blk rfl 106 _ rfl rfl _ HB_bx.out Tryz.underlying106 rfl Tryz.hInfo ?_))
  clear x_i x_g
  clear x_es
  refine (hp_decide HO.out d HDn.out 1 (.inl rfl) V HEU.out).mono ?_
  rintro e w1 ⟨rfl, he⟩
  have HE1 := hid (HE_V.out.trans he)
  have HBr := hid (HB_br.out.of he)
  have HBa := hid (HB_ba.out.of he)
  clear he
  go_wp2_with (first | (refine st_blk rfl 106 _ _ rfl rfl rfl HBr.out rfl Tryz.hInfo (Hr.One.all (hR_one HO.out _)) ?_; intro W1 hb1 hg1) | (refine st_blk rfl 46 _ _ rfl rfl rfl (HBa.out.grl hg1 (by have h1 := HN_V.out; simp; omega)) rfl Tryz.aInfo (a8E_one' _) ?_; intro W2 hb2 hg2))
  exact bodyPost_ret (res3 Tryz.results135 rfl rfl rfl (hb1.grl hg2 (by have h1 := HN_V.out; simp; omega)) hb2 Tryz.underlying106 rfl Tryz.hInfo Tryz.underlying46 rfl Tryz.aInfo) rfl ⟨rfl, (HE1.out.grl hg1 (by have h1 := HN_V.out; simp; omega)).grl hg2 (by have h1 := HN_V.out; simp; omega)⟩
 ·have hl : d.i < d.es.length := by have := hd.i; omega
  have HR := hid (show hpInstall X.dur d = hpAsk d (swapA d.cur.loc (enOld d.cur) (hpHeld d)) 5 from if_neg hi)
  rw [HR.out]
  obtain ⟨ea, ec, n, hn, hv⟩ := es_len he
  have HVE := hid hv
  have hin : ¬ (d.i : Int) = (n : Int) := by omega
  have HL := hid hl
  clear hd he hi hn hv hl
  go_enter Tryz.func135, Tryz.ntmps135
  go_upto_region 1 with fail
  generalize hV_ : World.alloc _ _ = V
  have HE_V := hid (show Ext w V by rw [← hV_]; exact exP)
  have HB_bx := hid (show Blk V (w.heap.size) (hL (hR X d)) by rw [← hV_]; exact bkP)
  have HB_br := hid (show Blk V (w.heap.size + 1) zH by rw [← hV_]; exact bkP)
  have HB_ba := hid (show Blk V (w.heap.size + 1 + 1) [.int .i64 0, .int .i64 0, .int .i64 0, .int .u32 0, .int .u32 0, .int .i64 0, .int .u32 0, .int .u32 0] by rw [← hV_]; exact bkP)
  clear hV_
  obtain ⟨ba, hg_ba⟩ : ∃ g, g = w.heap.size + 1 + 1 := ⟨_, rfl⟩
  simp only [← hg_ba] at HB_ba ⊢
  obtain ⟨br, hg_br⟩ : ∃ g, g = w.heap.size + 1 := ⟨_, rfl⟩
  simp only [← hg_br] at HB_br ⊢
  obtain ⟨bx, hg_bx⟩ : ∃ g, g = w.heap.size := ⟨_, rfl⟩
  simp only [← hg_bx] at HB_bx ⊢
  have HN_V := hid (show bx = w.heap.size ∧ br = w.heap.size + 1 ∧ ba = w.heap.size + 1 + 1 ∧ ba < V.heap.size from ⟨hg_bx, hg_br, hg_ba, HB_ba.out.1⟩)
  clear hg_bx hg_br hg_ba
  have x_i : V.cell? ⟨bx, 12, none⟩ = some (.int .i64 (d.i : Int)) := HB_bx.out.2.2 12 _ rfl
  have x_g := HB_bx.out.1
  have x_es : V.cell? ⟨bx, 11, none⟩ = some (.slice ea n ec) := by rw [← HVE.out]; exact HB_bx.out.2.2 11 _ rfl
  have HEU := hid (show Sl V 6 enE X.es d.es from HEs.out.of enE_len HE_V.out)
  go_upto_region 3 with fail
  clear x_i x_es hin
  refine wp_region_facts [16, 17, 18, 19, 20, 21, 22, 23, 24, 25, 26, 27] [0, 1, 2, 3, 4, 5, 6, 7, 8, 9, 10, 11] rfl (fun w' => Ext V w') (fsAt [IsV (.agg (hL (hR X d)).toArray), IsV (.agg (hL (hR X d)).toArray), IsV (.int .i64 d.cur.loc), IsV (.agg (hL (hR X d)).toArray), IsV (.agg (wdE (enOld d.cur)).toArray), IsV (.agg (hL (hR X d)).toArray), IsV (.agg (wdE (hpHeld d)).toArray), IsV (.agg (a8E (swapA d.cur.loc (enOld d.cur) (hpHeld d))).toArray), IsV (.tuple #[.agg (hL (hR X (hpAsk d (swapA d.cur.loc (enOld d.cur) (hpHeld d)) 5).1)).toArray, .agg (a8E (hpAsk d (swapA d.cur.loc (enOld d.cur) (hpHeld d)) 5).2.1).toArray, .bool (hpAsk d (swapA d.cur.loc (enOld d.cur) (hpHeld d)) 5).2.2]), IsV ?_, IsV ?_, IsV ?_]) (by kernel_rfl) (by kernel_rfl) ((Ext.refl _).drew) (fun w w' h he => h.trans he) (aC (fun _ _ _ h _ => h) (aC (fun _ _ _ h _ => h) (aC (fun _ _ _ h _ => h) (aC (fun _ _ _ h _ => h) (aC (fun _ _ _ h _ => h) (aC (fun _ _ _ h _ => h) (aC (fun _ _ _ h _ => h) (aC (fun _ _ _ h _ => h) (aC (fun _ _ _ h _ => h) (aC (fun _ _ _ h _ => h) (aC (fun _ _ _ h _ => h) (aC (fun _ _ _ h _ => h) (AllOn.nil))))))))))))) (aC ?_ (aC ?_ (aC ?_ (aC ?_ (aC ?_ (aC ?_ (aC ?_ (aC ?_ (aC ?_ (aC ?_ (aC ?_ (aC ?_ (AllOn.nil))))))))))))) ?_
  rotate_left 3
  ·intro A w cx hO hD
   have e1 := evO hO 1 rfl
   clear hD hO
   refine hdW rfl rfl ?_
   refine ld_op _ _ rfl ((ev_tm A 1).trans e1) _ (HB_bx.out.of cx) Tryz.underlying106 rfl Tryz.hInfo ?_
   exact ⟨_, rfl, Ext.refl _, rfl⟩
  ·intro A w cx hO hD
   have e1 := evO hO 1 rfl
   clear hD hO
   refine hdW rfl rfl ?_
   refine ld_op _ _ rfl ((ev_tm A 1).trans e1) _ (HB_bx.out.of cx) Tryz.underlying106 rfl Tryz.hInfo ?_
   exact ⟨_, rfl, Ext.refl _, rfl⟩
  ·intro A w cx hO hD
   have e17 := evD (hD 1 (by kernel_rfl) 17 rfl)
   clear hD hO
   refine hdW rfl rfl ?_
   simp [go_sem, e17]
   refine (hp_place d _ (HEU.out.of enE_len cx) HL.out).mono ?_
   rintro e w' ⟨rfl, hx_⟩
   exact ⟨_, rfl, hx_, rfl⟩
  ·intro A w cx hO hD
   have e1 := evO hO 1 rfl
   clear hD hO
   refine hdW rfl rfl ?_
   refine ld_op _ _ rfl ((ev_tm A 1).trans e1) _ (HB_bx.out.of cx) Tryz.underlying106 rfl Tryz.hInfo ?_
   exact ⟨_, rfl, Ext.refl _, rfl⟩
  ·intro A w cx hO hD
   have e19 := evD (hD 3 (by kernel_rfl) 19 rfl)
   clear hD hO
   refine hdW rfl rfl ?_
   simp [go_sem, e19]
   refine (hp_plain d _ (HEU.out.of enE_len cx) HL.out).mono ?_
   rintro e w' ⟨rfl, hx_⟩
   exact ⟨_, rfl, hx_, rfl⟩
  ·intro A w cx hO hD
   have e1 := evO hO 1 rfl
   clear hD hO
   refine hdW rfl rfl ?_
   refine ld_op _ _ rfl ((ev_tm A 1).trans e1) _ (HB_bx.out.of cx) Tryz.underlying106 rfl Tryz.hInfo ?_
   exact ⟨_, rfl, Ext.refl _, rfl⟩
  ·intro A w cx hO hD
   have e21 := evD (hD 5 (by kernel_rfl) 21 rfl)
   clear hD hO
   refine hdW rfl rfl ?_
   simp [go_sem, e21]
   refine (hp_held d _ (HEU.out.of enE_len cx) HL.out).mono ?_
   rintro e w' ⟨rfl, hx_⟩
   exact ⟨_, rfl, hx_, rfl⟩
  ·intro A w cx hO hD
   have e18 := evD (hD 2 (by kernel_rfl) 18 rfl)
   have e20 := evD (hD 4 (by kernel_rfl) 20 rfl)
   have e22 := evD (hD 6 (by kernel_rfl) 22 rfl)
   clear hD hO
   refine hdW rfl rfl ?_
   simp [go_sem, Oper.wp, execOp, Oper.upon, e18, e20, e22, enOld, hpHeld, wdE]
   exact ⟨_, rfl, Ext.refl _, rfl⟩
  ·intro A w cx hO hD
   have e16 := evD (hD 0 (by kernel_rfl) 16 rfl)
   have e23 := evD (hD 7 (by kernel_rfl) 23 rfl)
   clear hD hO
   refine hdW rfl rfl ?_
   simp [go_sem, e16, e23]
   refine (hp_ask HO.out d (swapA d.cur.loc (enOld d.cur) (hpHeld d)) 5 _).mono ?_
   rintro e w' ⟨rfl, hx_⟩
   exact ⟨_, rfl, hx_, rfl⟩
  ·intro A w cx hO hD
   have e24 := evD (hD 8 (by kernel_rfl) 24 rfl)
   clear hD hO
   refine hdV rfl ?_ rfl rfl ?_ ?_
   rotate_left 1
   ·simp [go_sem, e24, cx]
    try with_reducible rfl
   ·exact IsV.mk (w := w)
  ·intro A w cx hO hD
   have e24 := evD (hD 8 (by kernel_rfl) 24 rfl)
   clear hD hO
   refine hdV rfl ?_ rfl rfl ?_ ?_
   rotate_left 1
   ·simp [go_sem, e24, cx]
    try with_reducible rfl
   ·exact IsV.mk (w := w)
  ·intro A w cx hO hD
   have e24 := evD (hD 8 (by kernel_rfl) 24 rfl)
   clear hD hO
   refine hdV rfl ?_ rfl rfl ?_ ?_
   rotate_left 1
   ·simp [go_sem, e24, cx]
    try with_reducible rfl
   ·exact IsV.mk (w := w)
  intro u wx hC hF
  obtain ⟨f0, f1, f2, f3, f4, f5, f6, f7, f8, f9, f10, f11, _⟩ := hF
  have g0 : u 0 = _ := f0
  have g1 : u 1 = _ := f1
  have g2 : u 2 = _ := f2
  have g3 : u 3 = _ := f3
  have g4 : u 4 = _ := f4
  have g5 : u 5 = _ := f5
  have g6 : u 6 = _ := f6
  have g7 : u 7 = _ := f7
  have g8 : u 8 = _ := f8
  have g9 : u 9 = _ := f9
  have g10 : u 10 = _ := f10
  have g11 : u 11 = _ := f11
  simp only [fPut, Nat.zero_add, Nat.reduceAdd, g0, g1, g2, g3, g4, g5, g6, g7, g8, g9, g10, g11, Act.put, List.setIfInBounds_toArray, List.set_cons_zero, List.set_cons_succ, List.length_cons, List.length_nil, List.drop_succ_cons, List.drop_zero]
  clear g0 g1 g2 g3 g4 g5 g6 g7 g8 g9 g10 g11 f0 f1 f2 f3 f4 f5 f6 f7 f8 f9 f10 f11
  have cx := hC
  have HE1 := hid (HE_V.out.trans cx)
  have HBr := hid (HB_br.out.of cx)
  have HBa := hid (HB_ba.out.of cx)
  go_wp2_with (first | (refine st_blk rfl 106 _ _ rfl rfl (cs := hL (hR X (hpAsk d (swapA d.cur.loc (enOld d.cur) (hpHeld d)) 5).1)) rfl HBr.out rfl Tryz.hInfo (Hr.One.all (hR_one HO.out _)) ?_; intro W1 hb1 hg1) | (refine st_blk rfl 46 _ _ rfl rfl (cs := a8E (hpAsk d (swapA d.cur.loc (enOld d.cur) (hpHeld d)) 5).2.1) rfl (HBa.out.grl hg1 (by have h1 := HN_V.out; simp; omega)) rfl Tryz.aInfo (a8E_one' _) ?_; intro W2 hb2 hg2))
  exact bodyPost_ret (res3 Tryz.results135 rfl rfl rfl (hb1.grl hg2 (by have h1 := HN_V.out; simp; omega)) hb2 Tryz.underlying106 rfl Tryz.hInfo Tryz.underlying46 rfl Tryz.aInfo) rfl ⟨rfl, (HE1.out.grl hg1 (by have h1 := HN_V.out; simp; omega)).grl hg2 (by have h1 := HN_V.out; simp; omega)⟩
end Go.Proofs.YtiacdohaiidehaaGreatDoor
