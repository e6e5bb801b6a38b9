/- Walks of package help: load, counted. -/
import Derived.Test.YtiacdohaiidehaaGreatDoorPk37
namespace Go.Proofs.YtiacdohaiidehaaGreatDoor
set_option linter.unusedSimpArgs false
set_option linter.unusedVariables false
open Go.RowKit
theorem ws_len {w : World} {X : HX} {d : Hd} (he : Sl w 3 wdE X.ws d.ws) : ∃ (ea : Option Addr) (ec n : Nat), n = d.ws.length ∧ X.ws = .slice ea n ec := by
 obtain ⟨ea, ec, hv, _⟩ := he
 exact ⟨ea, ec, _, rfl, hv⟩
theorem tdiv3 (n : Nat) : Int.tdiv (n : Int) 3 = ((n / 3 : Nat) : Int) := by
 rw [Int.tdiv_eq_ediv_of_nonneg (by omega)]; omega
theorem tmod3 (n : Nat) : Int.tmod (n : Int) 3 = ((n % 3 : Nat) : Int) := by
 rw [Int.tmod_eq_emod_of_nonneg (by omega)]; omega
set_option maxRecDepth 100000 in
set_option maxHeartbeats 1000000 in
theorem hp_load {X : HX} (ho : X.One) (d : Hd) (hd : HdN d) (w : World) (hw : Sl w 3 wdE X.ws d.ws) (hs : Szs w) :
 Calls Tryz.prog 104 #[.agg (hL (hR X d)).toArray] w fun e w' => e = .returned (.tuple #[.agg (hL (hR X (hpLoad X.t X.c X.b d).1)).toArray, .agg (a8E (hpLoad X.t X.c X.b d).2.1).toArray, .bool (hpLoad X.t X.c X.b d).2.2]) ∧ Ext w w' := by
 have HO := hid ho
 clear ho
 have HS := hid hs
 have HDn := hid hd
 obtain ⟨wa, wc, n, hn, hv⟩ := ws_len hw
 have HVW := hid hv
 have h3m : wrap64 (3 * d.many) = 3 * d.many := IntWalk.wrap64_in _ (by have := hd.many; omega)
 have HWho := hid (show -9223372036854775808 ≤ d.who ∧ d.who ≤ 9223372036854775807 by have := hd.who; omega)
 by_cases h1 : (d.ws.length : Int) = 3 * d.many
 ·have HR := hid (show hpLoad X.t X.c X.b d = hpLook d 4 from if_pos h1)
  rw [HR.out]
  have hin : (n : Int) = 3 * d.many := by rw [hn]; exact h1
  clear h1 hd hs hw hn hv
  go_enter Tryz.func104, Tryz.ntmps104
  go_upto_region 1 with fail
  generalize hV_ : World.alloc _ _ = V
  have HE_V := hid (show Ext w V by rw [← hV_]; exact exP)
  have HB_bx := hid (show Blk V (w.heap.size) (hL (hR X d)) by rw [← hV_]; exact bkP)
  have HB_br := hid (show Blk V (w.heap.size + 1) zH by rw [← hV_]; exact bkP)
  have HB_ba := hid (show Blk V (w.heap.size + 1 + 1) [.int .i64 0, .int .i64 0, .int .i64 0, .int .u32 0, .int .u32 0, .int .i64 0, .int .u32 0, .int .u32 0] by rw [← hV_]; exact bkP)
  clear hV_
  obtain ⟨ba, hg_ba⟩ : ∃ g, g = w.heap.size + 1 + 1 := ⟨_, rfl⟩
  simp only [← hg_ba] at HB_ba ⊢
  obtain ⟨br, hg_br⟩ : ∃ g, g = w.heap.size + 1 := ⟨_, rfl⟩
  simp only [← hg_br] at HB_br ⊢
  obtain ⟨bx, hg_bx⟩ : ∃ g, g = w.heap.size := ⟨_, rfl⟩
  simp only [← hg_bx] at HB_bx ⊢
  have HN_V := hid (show bx = w.heap.size ∧ br = w.heap.size + 1 ∧ ba = w.heap.size + 1 + 1 ∧ ba < V.heap.size from ⟨hg_bx, hg_br, hg_ba, HB_ba.out.1⟩)
  clear hg_bx hg_br hg_ba
  have x_many : V.cell? ⟨bx, 10, none⟩ = some (.int .i64 d.many) := HB_bx.out.2.2 10 _ rfl
  have x_g := HB_bx.out.1
  have x_ws : V.cell? ⟨bx, 9, none⟩ = some (.slice wa n wc) := by rw [← HVW.out]; exact HB_bx.out.2.2 9 _ rfl
  go_wp2_with (first | (refine ld_blk rfl 106 _ rfl rfl _ HB_bx.out Tryz.underlying106 rfl Tryz.hInfo ?_))
  clear x_many x_g
  clear x_ws hin h3m
  refine (hp_look HO.out d 4 V).mono ?_
  rintro e w1 ⟨rfl, he⟩
  have HE1 := hid (HE_V.out.trans he)
  have HBr := hid (HB_br.out.of he)
  have HBa := hid (HB_ba.out.of he)
  clear he
  go_wp2_with (first | (refine st_blk rfl 106 _ _ rfl rfl rfl HBr.out rfl Tryz.hInfo (Hr.One.all (hR_one HO.out _)) ?_; intro W1 hb1 hg1) | (refine st_blk rfl 46 _ _ rfl rfl rfl (HBa.out.grl hg1 (by have h1 := HN_V.out; simp; omega)) rfl Tryz.aInfo (a8E_one' _) ?_; intro W2 hb2 hg2))
  exact bodyPost_ret (res3 Tryz.results104 rfl rfl rfl (hb1.grl hg2 (by have h1 := HN_V.out; simp; omega)) hb2 Tryz.underlying106 rfl Tryz.hInfo Tryz.underlying46 rfl Tryz.aInfo) rfl ⟨rfl, (HE1.out.grl hg1 (by have h1 := HN_V.out; simp; omega)).grl hg2 (by have h1 := HN_V.out; simp; omega)⟩
 ·have HR := hid (show hpLoad X.t X.c X.b d = hpAsk d (loadA (fieldN X.t X.c X.b d.who (d.ws.length / 3 : Nat) (d.ws.length % 3 : Nat)).1) 3 from if_neg h1)
  rw [HR.out]
  have hin : ¬ (n : Int) = 3 * d.many := by rw [hn]; exact h1
  obtain ⟨q, hq⟩ : ∃ q, q = n / 3 := ⟨_, rfl⟩
  obtain ⟨r, hr⟩ : ∃ r, r = n % 3 := ⟨_, rfl⟩
  have htd : Int.tdiv (n : Int) 3 = (q : Int) := by rw [tdiv3, hq]
  have htm : Int.tmod (n : Int) 3 = (r : Int) := by rw [tmod3, hr]
  have hwq : wrap64 (q : Int) = (q : Int) := IntWalk.wrap64_in _ (by have := hd.ws; omega)
  have hwr : wrap64 (r : Int) = (r : Int) := IntWalk.wrap64_in _ (by have := hd.ws; omega)
  obtain ⟨fv, hfv⟩ : ∃ f, f = fieldN X.t X.c X.b d.who (q : Int) (r : Int) := ⟨_, rfl⟩
  have HFv := hid hfv
  have HF2 := hid (show fieldN X.t X.c X.b d.who (d.ws.length / 3 : Nat) (d.ws.length % 3 : Nat) = fv by rw [hfv, hq, hr, hn])
  rw [HF2.out]
  clear h1 hd hs hw hn hv hq hr hfv
  go_enter Tryz.func104, Tryz.ntmps104
  go_upto_region 1 with fail
  generalize hV_ : World.alloc _ _ = V
  have HE_V := hid (show Ext w V by rw [← hV_]; exact exP)
  have HB_bx := hid (show Blk V (w.heap.size) (hL (hR X d)) by rw [← hV_]; exact bkP)
  have HB_br := hid (show Blk V (w.heap.size + 1) zH by rw [← hV_]; exact bkP)
  have HB_ba := hid (show Blk V (w.heap.size + 1 + 1) [.int .i64 0, .int .i64 0, .int .i64 0, .int .u32 0, .int .u32 0, .int .i64 0, .int .u32 0, .int .u32 0] by rw [← hV_]; exact bkP)
  clear hV_
  obtain ⟨ba, hg_ba⟩ : ∃ g, g = w.heap.size + 1 + 1 := ⟨_, rfl⟩
  simp only [← hg_ba] at HB_ba ⊢
  obtain ⟨br, hg_br⟩ : ∃ g, g = w.heap.size + 1 := ⟨_, rfl⟩
  simp only [← hg_br] at HB_br ⊢
  obtain ⟨bx, hg_bx⟩ : ∃ g, g = w.heap.size := ⟨_, rfl⟩
  simp only [← hg_bx] at HB_bx ⊢
  have HN_V := hid (show bx = w.heap.size ∧ br = w.heap.size + 1 ∧ ba = w.heap.size + 1 + 1 ∧ ba < V.heap.size from ⟨hg_bx, hg_br, hg_ba, HB_ba.out.1⟩)
  clear hg_bx hg_br hg_ba
  have x_many : V.cell? ⟨bx, 10, none⟩ = some (.int .i64 d.many) := HB_bx.out.2.2 10 _ rfl
  have x_t : V.cell? ⟨bx, 0, none⟩ = some (.int .i64 X.t) := HB_bx.out.2.2 0 _ rfl
  have x_c : V.cell? ⟨bx, 1, none⟩ = some (.int .i64 X.c) := HB_bx.out.2.2 1 _ rfl
  have x_b : V.cell? ⟨bx, 2, none⟩ = some (.int .i64 X.b) := HB_bx.out.2.2 2 _ rfl
  have x_who : V.cell? ⟨bx, 5, none⟩ = some (.int .i64 d.who) := HB_bx.out.2.2 5 _ rfl
  have x_g := HB_bx.out.1
  have x_ws : V.cell? ⟨bx, 9, none⟩ = some (.slice wa n wc) := by rw [← HVW.out]; exact HB_bx.out.2.2 9 _ rfl
  go_wp2_with fail
  refine (field_any X.t X.c X.b d.who q r HWho.out.1 HWho.out.2 V (HS.out.of HE_V.out)).mono ?_
  rintro e w2 ⟨rfl, hq_⟩
  rw [← HFv.out]
  have hx_ : Ext V w2 := hq_
  clear hq_ x_many x_t x_c x_b x_who x_g x_ws hin h3m htd htm hwq hwr
  have HE_w2 := hid (HE_V.out.trans hx_)
  have HB_bx2 := hid (HB_bx.out.of hx_)
  have HB_br2 := hid (HB_br.out.of hx_)
  have HB_ba2 := hid (HB_ba.out.of hx_)
  clear HB_bx HB_br HB_ba
  have HB_bx := HB_bx2
  have HB_br := HB_br2
  have HB_ba := HB_ba2
  clear HB_bx2 HB_br2 HB_ba2
  clear hx_
  have x_g := HB_bx.out.1
  go_wp2_with (first | (refine ld_blk rfl 106 _ rfl rfl _ HB_bx.out Tryz.underlying106 rfl Tryz.hInfo ?_))
  clear x_g
  refine (hp_ask HO.out d (loadA fv.1) 3 w2).mono ?_
  rintro e w1 ⟨rfl, he⟩
  have HE1 := hid (HE_w2.out.trans he)
  have HBr := hid (HB_br.out.of he)
  have HBa := hid (HB_ba.out.of he)
  clear he
  go_wp2_with (first | (refine st_blk rfl 106 _ _ rfl rfl rfl HBr.out rfl Tryz.hInfo (Hr.One.all (hR_one HO.out _)) ?_; intro W1 hb1 hg1) | (refine st_blk rfl 46 _ _ rfl rfl rfl (HBa.out.grl hg1 (by have h1 := HN_V.out; simp; omega)) rfl Tryz.aInfo (a8E_one' _) ?_; intro W2 hb2 hg2))
  exact bodyPost_ret (res3 Tryz.results104 rfl rfl rfl (hb1.grl hg2 (by have h1 := HN_V.out; simp; omega)) hb2 Tryz.underlying106 rfl Tryz.hInfo Tryz.underlying46 rfl Tryz.aInfo) rfl ⟨rfl, (HE1.out.grl hg1 (by have h1 := HN_V.out; simp; omega)).grl hg2 (by have h1 := HN_V.out; simp; omega)⟩
set_option maxRecDepth 100000 in
set_option maxHeartbeats 1000000 in
theorem hp_counted {X : HX} (ho : X.One) (d : Hd) (hd : HdN d) (hn : X.inn = .nilIface) (g : Gt) (w : World) (hw : Sl w 3 wdE X.ws d.ws) (hs : Szs w) :
 Calls Tryz.prog 89 #[.agg (hL (hR X d)).toArray, .agg (gtE g).toArray] w fun e w' => e = .returned (.tuple #[.agg (hL (hR X (hpCounted X.t X.c X.b d g.1).1)).toArray, .agg (a8E (hpCounted X.t X.c X.b d g.1).2.1).toArray, .bool (hpCounted X.t X.c X.b d g.1).2.2]) ∧ Ext w w' := by
 have HO := hid ho
 clear ho
 have HS := hid hs
 have HDn := hid hd
 have HNi := hid hn
 have HWs := hid hw
 clear hs hd hn hw
 obtain ⟨⟨g1, g2, g3⟩, gk⟩ := g
 have hneq := neq_word g1 g2 g3 g1 0 0
 have hga := eq_guard_word
 by_cases h1 : g1 < 1
 ·have HR := hid (show hpCounted X.t X.c X.b d (g1, g2, g3) = hpEnd d 4 from if_pos (.inl h1))
  rw [HR.out]
  have h1b : decide (g1 < 1) = true := decide_eq_true h1
  clear h1
  go_enter Tryz.func89, Tryz.ntmps89
  go_upto_region 1 with fail
  generalize hV_ : World.alloc _ _ = V
  have HE_V := hid (show Ext w V by rw [← hV_]; exact exP)
  have HB_bx := hid (show Blk V (w.heap.size) (hL (hR X d)) by rw [← hV_]; exact bkP)
  have HB_bg := hid (show Blk V (w.heap.size + 1) (gtE ((g1, g2, g3), gk)) by rw [← hV_]; exact bkP)
  have HB_br := hid (show Blk V (w.heap.size + 1 + 1) zH by rw [← hV_]; exact bkP)
  have HB_ba := hid (show Blk V (w.heap.size + 1 + 1 + 1) [.int .i64 0, .int .i64 0, .int .i64 0, .int .u32 0, .int .u32 0, .int .i64 0, .int .u32 0, .int .u32 0] by rw [← hV_]; exact bkP)
  clear hV_
  obtain ⟨ba, hg_ba⟩ : ∃ g, g = w.heap.size + 1 + 1 + 1 := ⟨_, rfl⟩
  simp only [← hg_ba] at HB_ba ⊢
  obtain ⟨br, hg_br⟩ : ∃ g, g = w.heap.size + 1 + 1 := ⟨_, rfl⟩
  simp only [← hg_br] at HB_br ⊢
  obtain ⟨bg, hg_bg⟩ : ∃ g, g = w.heap.size + 1 := ⟨_, rfl⟩
  simp only [← hg_bg] at HB_bg ⊢
  obtain ⟨bx, hg_bx⟩ : ∃ g, g = w.heap.size := ⟨_, rfl⟩
  simp only [← hg_bx] at HB_bx ⊢
  have HN_V := hid (show bx = w.heap.size ∧ bg = w.heap.size + 1 ∧ br = w.heap.size + 1 + 1 ∧ ba = w.heap.size + 1 + 1 + 1 ∧ ba < V.heap.size from ⟨hg_bx, hg_bg, hg_br, hg_ba, HB_ba.out.1⟩)
  clear hg_bx hg_bg hg_br hg_ba
  have x_most : V.cell? ⟨bx, 7, none⟩ = some (.int .i64 d.most) := HB_bx.out.2.2 7 _ rfl
  have x_g := HB_bx.out.1
  have w0 : V.cell? ⟨bg, 0, none⟩ = some (.int .i64 g1) := HB_bg.out.2.2 0 _ rfl
  have w1 : V.cell? ⟨bg, 1, none⟩ = some (.int .u32 g2) := HB_bg.out.2.2 1 _ rfl
  have w2 : V.cell? ⟨bg, 2, none⟩ = some (.int .u32 g3) := HB_bg.out.2.2 2 _ rfl
  have wg := HB_bg.out.1
  go_wp2_with (first | (refine ld_blk rfl 106 _ rfl rfl _ HB_bx.out Tryz.underlying106 rfl Tryz.hInfo ?_))
  clear x_most x_g
  clear w0 w1 w2 wg
  refine (hp_end' HO.out HNi.out d 4 V).mono ?_
  rintro e w1 ⟨rfl, he⟩
  have HE1 := hid (HE_V.out.trans he)
  have HBr := hid (HB_br.out.of he)
  have HBa := hid (HB_ba.out.of he)
  clear he
  go_wp2_with (first | (refine st_blk rfl 106 _ _ rfl rfl rfl HBr.out rfl Tryz.hInfo (Hr.One.all (hR_one HO.out _)) ?_; intro W1 hb1 hg1) | (refine st_blk rfl 46 _ _ rfl rfl rfl (HBa.out.grl hg1 (by have h1 := HN_V.out; simp; omega)) rfl Tryz.aInfo (a8E_one' _) ?_; intro W2 hb2 hg2))
  exact bodyPost_ret (res3 Tryz.results89 rfl rfl rfl (hb1.grl hg2 (by have h1 := HN_V.out; simp; omega)) hb2 Tryz.underlying106 rfl Tryz.hInfo Tryz.underlying46 rfl Tryz.aInfo) rfl ⟨rfl, (HE1.out.grl hg1 (by have h1 := HN_V.out; simp; omega)).grl hg2 (by have h1 := HN_V.out; simp; omega)⟩
 ·have h1b : decide (g1 < 1) = false := decide_eq_false h1
  by_cases h2 : d.most < g1
  ·have HR := hid (show hpCounted X.t X.c X.b d (g1, g2, g3) = hpEnd d 4 from if_pos (.inr (.inl h2)))
   rw [HR.out]
   have h2b : decide (d.most < g1) = true := decide_eq_true h2
   clear h1 h2
   go_enter Tryz.func89, Tryz.ntmps89
   go_upto_region 1 with fail
   generalize hV_ : World.alloc _ _ = V
   have HE_V := hid (show Ext w V by rw [← hV_]; exact exP)
   have HB_bx := hid (show Blk V (w.heap.size) (hL (hR X d)) by rw [← hV_]; exact bkP)
   have HB_bg := hid (show Blk V (w.heap.size + 1) (gtE ((g1, g2, g3), gk)) by rw [← hV_]; exact bkP)
   have HB_br := hid (show Blk V (w.heap.size + 1 + 1) zH by rw [← hV_]; exact bkP)
   have HB_ba := hid (show Blk V (w.heap.size + 1 + 1 + 1) [.int .i64 0, .int .i64 0, .int .i64 0, .int .u32 0, .int .u32 0, .int .i64 0, .int .u32 0, .int .u32 0] by rw [← hV_]; exact bkP)
   clear hV_
   obtain ⟨ba, hg_ba⟩ : ∃ g, g = w.heap.size + 1 + 1 + 1 := ⟨_, rfl⟩
   simp only [← hg_ba] at HB_ba ⊢
   obtain ⟨br, hg_br⟩ : ∃ g, g = w.heap.size + 1 + 1 := ⟨_, rfl⟩
   simp only [← hg_br] at HB_br ⊢
   obtain ⟨bg, hg_bg⟩ : ∃ g, g = w.heap.size + 1 := ⟨_, rfl⟩
   simp only [← hg_bg] at HB_bg ⊢
   obtain ⟨bx, hg_bx⟩ : ∃ g, g = w.heap.size := ⟨_, rfl⟩
   simp only [← hg_bx] at HB_bx ⊢
   have HN_V := hid (show bx = w.heap.size ∧ bg = w.heap.size + 1 ∧ br = w.heap.size + 1 + 1 ∧ ba = w.heap.size + 1 + 1 + 1 ∧ ba < V.heap.size from ⟨hg_bx, hg_bg, hg_br, hg_ba, HB_ba.out.1⟩)
   clear hg_bx hg_bg hg_br hg_ba
   have x_most : V.cell? ⟨bx, 7, none⟩ = some (.int .i64 d.most) := HB_bx.out.2.2 7 _ rfl
   have x_g := HB_bx.out.1
   have w0 : V.cell? ⟨bg, 0, none⟩ = some (.int .i64 g1) := HB_bg.out.2.2 0 _ rfl
   have w1 : V.cell? ⟨bg, 1, none⟩ = some (.int .u32 g2) := HB_bg.out.2.2 1 _ rfl
   have w2 : V.cell? ⟨bg, 2, none⟩ = some (.int .u32 g3) := HB_bg.out.2.2 2 _ rfl
   have wg := HB_bg.out.1
   go_wp2_with (first | (refine ld_blk rfl 106 _ rfl rfl _ HB_bx.out Tryz.underlying106 rfl Tryz.hInfo ?_))
   clear x_most x_g
   clear w0 w1 w2 wg
   refine (hp_end' HO.out HNi.out d 4 V).mono ?_
   rintro e w1 ⟨rfl, he⟩
   have HE1 := hid (HE_V.out.trans he)
   have HBr := hid (HB_br.out.of he)
   have HBa := hid (HB_ba.out.of he)
   clear he
   go_wp2_with (first | (refine st_blk rfl 106 _ _ rfl rfl rfl HBr.out rfl Tryz.hInfo (Hr.One.all (hR_one HO.out _)) ?_; intro W1 hb1 hg1) | (refine st_blk rfl 46 _ _ rfl rfl rfl (HBa.out.grl hg1 (by have h1 := HN_V.out; simp; omega)) rfl Tryz.aInfo (a8E_one' _) ?_; intro W2 hb2 hg2))
   exact bodyPost_ret (res3 Tryz.results89 rfl rfl rfl (hb1.grl hg2 (by have h1 := HN_V.out; simp; omega)) hb2 Tryz.underlying106 rfl Tryz.hInfo Tryz.underlying46 rfl Tryz.aInfo) rfl ⟨rfl, (HE1.out.grl hg1 (by have h1 := HN_V.out; simp; omega)).grl hg2 (by have h1 := HN_V.out; simp; omega)⟩
  ·have h2b : decide (d.most < g1) = false := decide_eq_false h2
   by_cases h3 : g2 = 0 ∧ g3 = 0
   ·have HDq := hid (show HdN { d with many := g1 } from ⟨HDn.out.seq, HDn.out.ref, HDn.out.at_, HDn.out.who, HDn.out.most, HDn.out.i, HDn.out.es, HDn.out.ws, by show 0 ≤ g1 ∧ g1 ≤ 32; have := HDn.out.most; omega⟩)
    have HR := hid (show hpCounted X.t X.c X.b d (g1, g2, g3) = hpLoad X.t X.c X.b { d with many := g1 } from if_neg (by rintro (h | h | h); exact h1 h; exact h2 h; exact h h3))
    rw [HR.out]
    have hq1 : wdB (g1, g2, g3) (g1, 0, 0) = true := by rw [h3.1, h3.2]; exact wdB_self _
    clear h1 h2 h3
    go_enter Tryz.func89, Tryz.ntmps89
    go_upto_region 1 with fail
    generalize hV_ : World.alloc _ _ = V
    have HE_V := hid (show Ext w V by rw [← hV_]; exact exP)
    have HB_bx := hid (show Blk V (w.heap.size) (hL (hR X d)) by rw [← hV_]; exact bkP)
    have HB_bg := hid (show Blk V (w.heap.size + 1) (gtE ((g1, g2, g3), gk)) by rw [← hV_]; exact bkP)
    have HB_br := hid (show Blk V (w.heap.size + 1 + 1) zH by rw [← hV_]; exact bkP)
    have HB_ba := hid (show Blk V (w.heap.size + 1 + 1 + 1) [.int .i64 0, .int .i64 0, .int .i64 0, .int .u32 0, .int .u32 0, .int .i64 0, .int .u32 0, .int .u32 0] by rw [← hV_]; exact bkP)
    clear hV_
    obtain ⟨ba, hg_ba⟩ : ∃ g, g = w.heap.size + 1 + 1 + 1 := ⟨_, rfl⟩
    simp only [← hg_ba] at HB_ba ⊢
    obtain ⟨br, hg_br⟩ : ∃ g, g = w.heap.size + 1 + 1 := ⟨_, rfl⟩
    simp only [← hg_br] at HB_br ⊢
    obtain ⟨bg, hg_bg⟩ : ∃ g, g = w.heap.size + 1 := ⟨_, rfl⟩
    simp only [← hg_bg] at HB_bg ⊢
    obtain ⟨bx, hg_bx⟩ : ∃ g, g = w.heap.size := ⟨_, rfl⟩
    simp only [← hg_bx] at HB_bx ⊢
    have HN_V := hid (show bx = w.heap.size ∧ bg = w.heap.size + 1 ∧ br = w.heap.size + 1 + 1 ∧ ba = w.heap.size + 1 + 1 + 1 ∧ ba < V.heap.size from ⟨hg_bx, hg_bg, hg_br, hg_ba, HB_ba.out.1⟩)
    clear hg_bx hg_bg hg_br hg_ba
    have x_most : V.cell? ⟨bx, 7, none⟩ = some (.int .i64 d.most) := HB_bx.out.2.2 7 _ rfl
    have x_many : V.cell? ⟨bx, 10, none⟩ = some (.int .i64 d.many) := HB_bx.out.2.2 10 _ rfl
    have x_g := HB_bx.out.1
    have w0 : V.cell? ⟨bg, 0, none⟩ = some (.int .i64 g1) := HB_bg.out.2.2 0 _ rfl
    have w1 : V.cell? ⟨bg, 1, none⟩ = some (.int .u32 g2) := HB_bg.out.2.2 1 _ rfl
    have w2 : V.cell? ⟨bg, 2, none⟩ = some (.int .u32 g3) := HB_bg.out.2.2 2 _ rfl
    have wg := HB_bg.out.1
    have x_f := HB_bx.out.2.1
    go_upto_region 5 with fail
    generalize hZ_ : World.setCell _ _ _ = U
    have HG_U := hid (show GrL [bx] V U by rw [← hZ_]; exact glP)
    have HB_bx2 := hid (show Blk U bx (hL (hR X { d with many := g1 })) by rw [← hZ_]; exact HB_bx.out.set 10 (of_decide_eq_true rfl) _)
    clear hZ_ HB_bx x_most x_many x_g x_f w0 w1 w2 wg
    have HB_bx := HB_bx2
    clear HB_bx2
    have HE_U := hid (HE_V.out.grl HG_U.out (by have h1 := HN_V.out; simp; omega))
    have HB_br2 := hid (HB_br.out.grl HG_U.out (by have h1 := HN_V.out; simp; omega))
    clear HB_br
    have HB_br := HB_br2
    clear HB_br2
    have HB_ba2 := hid (HB_ba.out.grl HG_U.out (by have h1 := HN_V.out; simp; omega))
    clear HB_ba
    have HB_ba := HB_ba2
    clear HB_ba2
    have HWU := hid (show Sl U 3 wdE X.ws d.ws from HWs.out.of wdE_len HE_U.out)
    have HSU := hid (HS.out.of HE_U.out)
    go_wp2_with (first | (refine ld_blk rfl 106 _ rfl rfl _ HB_bx.out Tryz.underlying106 rfl Tryz.hInfo ?_))
    refine (hp_load HO.out { d with many := g1 } HDq.out U HWU.out HSU.out).mono ?_
    rintro e w1 ⟨rfl, he⟩
    have HE1 := hid (HE_U.out.trans he)
    have HBr := hid (HB_br.out.of he)
    have HBa := hid (HB_ba.out.of he)
    clear he
    go_wp2_with (first | (refine st_blk rfl 106 _ _ rfl rfl rfl HBr.out rfl Tryz.hInfo (Hr.One.all (hR_one HO.out _)) ?_; intro W1 hb1 hg1) | (refine st_blk rfl 46 _ _ rfl rfl rfl (HBa.out.grl hg1 (by have h1 := HN_V.out; simp; omega)) rfl Tryz.aInfo (a8E_one' _) ?_; intro W2 hb2 hg2))
    exact bodyPost_ret (res3 Tryz.results89 rfl rfl rfl (hb1.grl hg2 (by have h1 := HN_V.out; simp; omega)) hb2 Tryz.underlying106 rfl Tryz.hInfo Tryz.underlying46 rfl Tryz.aInfo) rfl ⟨rfl, (HE1.out.grl hg1 (by have h1 := HN_V.out; simp; omega)).grl hg2 (by have h1 := HN_V.out; simp; omega)⟩
   ·have HR := hid (show hpCounted X.t X.c X.b d (g1, g2, g3) = hpEnd d 4 from if_pos (.inr (.inr h3)))
    rw [HR.out]
    have hq1 : wdB (g1, g2, g3) (g1, 0, 0) = false := decide_eq_false (by simp; exact fun a b => h3 ⟨a, b⟩)
    clear h1 h2 h3
    go_enter Tryz.func89, Tryz.ntmps89
    go_upto_region 1 with fail
    generalize hV_ : World.alloc _ _ = V
    have HE_V := hid (show Ext w V by rw [← hV_]; exact exP)
    have HB_bx := hid (show Blk V (w.heap.size) (hL (hR X d)) by rw [← hV_]; exact bkP)
    have HB_bg := hid (show Blk V (w.heap.size + 1) (gtE ((g1, g2, g3), gk)) by rw [← hV_]; exact bkP)
    have HB_br := hid (show Blk V (w.heap.size + 1 + 1) zH by rw [← hV_]; exact bkP)
    have HB_ba := hid (show Blk V (w.heap.size + 1 + 1 + 1) [.int .i64 0, .int .i64 0, .int .i64 0, .int .u32 0, .int .u32 0, .int .i64 0, .int .u32 0, .int .u32 0] by rw [← hV_]; exact bkP)
    clear hV_
    obtain ⟨ba, hg_ba⟩ : ∃ g, g = w.heap.size + 1 + 1 + 1 := ⟨_, rfl⟩
    simp only [← hg_ba] at HB_ba ⊢
    obtain ⟨br, hg_br⟩ : ∃ g, g = w.heap.size + 1 + 1 := ⟨_, rfl⟩
    simp only [← hg_br] at HB_br ⊢
    obtain ⟨bg, hg_bg⟩ : ∃ g, g = w.heap.size + 1 := ⟨_, rfl⟩
    simp only [← hg_bg] at HB_bg ⊢
    obtain ⟨bx, hg_bx⟩ : ∃ g, g = w.heap.size := ⟨_, rfl⟩
    simp only [← hg_bx] at HB_bx ⊢
    have HN_V := hid (show bx = w.heap.size ∧ bg = w.heap.size + 1 ∧ br = w.heap.size + 1 + 1 ∧ ba = w.heap.size + 1 + 1 + 1 ∧ ba < V.heap.size from ⟨hg_bx, hg_bg, hg_br, hg_ba, HB_ba.out.1⟩)
    clear hg_bx hg_bg hg_br hg_ba
    have x_most : V.cell? ⟨bx, 7, none⟩ = some (.int .i64 d.most) := HB_bx.out.2.2 7 _ rfl
    have x_g := HB_bx.out.1
    have w0 : V.cell? ⟨bg, 0, none⟩ = some (.int .i64 g1) := HB_bg.out.2.2 0 _ rfl
    have w1 : V.cell? ⟨bg, 1, none⟩ = some (.int .u32 g2) := HB_bg.out.2.2 1 _ rfl
    have w2 : V.cell? ⟨bg, 2, none⟩ = some (.int .u32 g3) := HB_bg.out.2.2 2 _ rfl
    have wg := HB_bg.out.1
    go_wp2_with (first | (refine ld_blk rfl 106 _ rfl rfl _ HB_bx.out Tryz.underlying106 rfl Tryz.hInfo ?_))
    clear x_most x_g
    clear w0 w1 w2 wg
    refine (hp_end' HO.out HNi.out d 4 V).mono ?_
    rintro e w1 ⟨rfl, he⟩
    have HE1 := hid (HE_V.out.trans he)
    have HBr := hid (HB_br.out.of he)
    have HBa := hid (HB_ba.out.of he)
    clear he
    go_wp2_with (first | (refine st_blk rfl 106 _ _ rfl rfl rfl HBr.out rfl Tryz.hInfo (Hr.One.all (hR_one HO.out _)) ?_; intro W1 hb1 hg1) | (refine st_blk rfl 46 _ _ rfl rfl rfl (HBa.out.grl hg1 (by have h1 := HN_V.out; simp; omega)) rfl Tryz.aInfo (a8E_one' _) ?_; intro W2 hb2 hg2))
    exact bodyPost_ret (res3 Tryz.results89 rfl rfl rfl (hb1.grl hg2 (by have h1 := HN_V.out; simp; omega)) hb2 Tryz.underlying106 rfl Tryz.hInfo Tryz.underlying46 rfl Tryz.aInfo) rfl ⟨rfl, (HE1.out.grl hg1 (by have h1 := HN_V.out; simp; omega)).grl hg2 (by have h1 := HN_V.out; simp; omega)⟩
end Go.Proofs.YtiacdohaiidehaaGreatDoor
