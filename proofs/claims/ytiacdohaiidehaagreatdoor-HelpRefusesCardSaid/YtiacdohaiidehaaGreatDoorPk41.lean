/- Walks of package help: checked. -/
import Derived.Test.YtiacdohaiidehaaGreatDoorPk40
namespace Go.Proofs.YtiacdohaiidehaaGreatDoor
set_option linter.unusedSimpArgs false
set_option linter.unusedVariables false
open Go.RowKit
theorem hpUnp_len {t c b : Int} : ∀ (n : Nat) (ws : List Wd) (out l : List En), ws.length ≤ n → hpUnp t c b ws out = some l → l.length ≤ out.length + ws.length
 | 0, ws, out, l, hn, h => by
  have : ws = [] := List.length_eq_zero_iff.1 (by omega)
  subst this
  simp [hpUnp] at h; subst h; simp
 | n + 1, ws, out, l, hn, h => by
  match ws with
  | [] => simp [hpUnp] at h; subst h; simp
  | [_] => simp [hpUnp] at h; subst h; simp
  | [_, _] => simp [hpUnp] at h; subst h; simp
  | x :: y :: z :: r =>
   rw [hpUnp] at h
   split at h
   ·have := hpUnp_len n r _ _ (by simp at hn; omega) h
    simp at this ⊢; omega
   ·cases h
theorem hpUnpacked_len {t c b : Int} {ws : List Wd} {l : List En} (h : hpUnpacked t c b ws = some l) : l.length ≤ ws.length := by
 unfold hpUnpacked at h
 cases hu : hpUnp t c b ws [] with
 | none => rw [hu] at h; cases h
 | some l' =>
  rw [hu] at h
  simp only [Option.bind_some] at h
  split at h
  ·cases h; have := hpUnp_len _ _ _ _ (Nat.le_refl _) hu; simpa using this
  ·cases h
def ChPost (X : HX) (w : World) (o : Hd × A8 × Bool) (e : Ending) (w' : World) : Prop := ∃ v', v'.oneCell' = true ∧ e = .returned (.tuple #[.agg (hL (hR { X with es := v' } o.1)).toArray, .agg (a8E o.2.1).toArray, .bool o.2.2]) ∧ Ext w w' ∧ Sl w' 6 enE v' o.1.es ∧ (v' = X.es ∨ ∀ a n c, v' = .slice (some a) n c → w.heap.size ≤ a.block)
theorem hpFlushed_es (d : Hd) : (hpFlushed d).1.es = d.es := by unfold hpFlushed; split <;> rfl
theorem hpDecide_es (dur : Bool) (d : Hd) (v : Int) : (hpDecide dur d v).1.es = d.es := by
 unfold hpDecide; split
 ·exact hpFlushed_es _
 ·rfl
theorem hpInstall_es (dur : Bool) (d : Hd) : (hpInstall dur d).1.es = d.es := by
 unfold hpInstall; split
 ·exact hpDecide_es _ _ _
 ·rfl
theorem hpRelease_es (dur : Bool) (d : Hd) : (hpRelease dur d).1.es = d.es := by unfold hpRelease; split <;> rfl
set_option maxRecDepth 100000 in
set_option maxHeartbeats 1000000 in
theorem hp_checked {X : HX} (ho : X.One) (d : Hd) (hd : HdN d) (hi : d.i = 0) (hn : X.inn = .nilIface) (h3 : ∃ k, d.ws.length = 3 * k) (hne : d.ws ≠ []) (hok : ∀ a ∈ d.ws, WdOk a) (g : Gt) (w : World) (he : Sl w 6 enE X.es d.es) (hw : Sl w 3 wdE X.ws d.ws) (hs : Szs w) :
 Calls Tryz.prog 117 #[.agg (hL (hR X d)).toArray, .agg (gtE g).toArray] w fun e w' => ChPost X w (hpChecked X.t X.c X.b X.dur d g.1) e w' := by
 have HO := hid ho
 have HS := hid hs
 have HDn := hid hd
 have HEs := hid he
 have HNi := hid hn
 have HWs := hid hw
 have H3 := hid h3
 have HNe := hid hne
 have HOk := hid hok
 have HI0 := hid hi
 clear ho hs hd he hn hw h3 hne hok hi
 cases hs : hpStale d g.1
 rotate_left 1
 ·have HR := hid (show hpChecked X.t X.c X.b X.dur d g.1 = hpEnd d 4 by unfold hpChecked; rw [hs]; rfl)
  rw [HR.out]
  go_enter Tryz.func117, Tryz.ntmps117
  go_upto_region 1 with fail
  generalize hV_ : World.alloc _ _ = V
  have HE_V := hid (show Ext w V by rw [← hV_]; exact exP)
  have HB_bx := hid (show Blk V (w.heap.size) (hL (hR X d)) by rw [← hV_]; exact bkP)
  have HB_bg := hid (show Blk V (w.heap.size + 1) (gtE g) by rw [← hV_]; exact bkP)
  have HB_br := hid (show Blk V (w.heap.size + 1 + 1) zH by rw [← hV_]; exact bkP)
  have HB_ba := hid (show Blk V (w.heap.size + 1 + 1 + 1) [.int .i64 0, .int .i64 0, .int .i64 0, .int .u32 0, .int .u32 0, .int .i64 0, .int .u32 0, .int .u32 0] by rw [← hV_]; exact bkP)
  clear hV_
  obtain ⟨ba, hg_ba⟩ : ∃ g, g = w.heap.size + 1 + 1 + 1 := ⟨_, rfl⟩
  simp only [← hg_ba] at HB_ba ⊢
  obtain ⟨br, hg_br⟩ : ∃ g, g = w.heap.size + 1 + 1 := ⟨_, rfl⟩
  simp only [← hg_br] at HB_br ⊢
  obtain ⟨bg, hg_bg⟩ : ∃ g, g = w.heap.size + 1 := ⟨_, rfl⟩
  simp only [← hg_bg] at HB_bg ⊢
  obtain ⟨bx, hg_bx⟩ : ∃ g, g = w.heap.size := ⟨_, rfl⟩
  simp only [← hg_bx] at HB_bx ⊢
  have HN_V := hid (show bx = w.heap.size ∧ bg = w.heap.size + 1 ∧ br = w.heap.size + 1 + 1 ∧ ba = w.heap.size + 1 + 1 + 1 ∧ ba < V.heap.size from ⟨hg_bx, hg_bg, hg_br, hg_ba, HB_ba.out.1⟩)
  clear hg_bx hg_bg hg_br hg_ba
  have w0 : V.cell? ⟨bg, 0, none⟩ = some (.int .i64 g.1.1) := HB_bg.out.2.2 0 _ rfl
  have w1 : V.cell? ⟨bg, 1, none⟩ = some (.int .u32 g.1.2.1) := HB_bg.out.2.2 1 _ rfl
  have w2 : V.cell? ⟨bg, 2, none⟩ = some (.int .u32 g.1.2.2) := HB_bg.out.2.2 2 _ rfl
  have wg := HB_bg.out.1
  go_wp2_with (first | (refine ld_blk rfl 106 _ rfl rfl _ HB_bx.out Tryz.underlying106 rfl Tryz.hInfo ?_))
  refine (hp_stale d HDn.out g.1 V).mono ?_
  rintro e w0_ ⟨rfl, he0⟩
  clear w0 w1 w2 wg
  have HE_U := hid (HE_V.out.trans he0)
  have HB_bx2 := hid (HB_bx.out.of he0)
  have HB_br2 := hid (HB_br.out.of he0)
  have HB_ba2 := hid (HB_ba.out.of he0)
  have HB_bg2 := hid (HB_bg.out.of he0)
  clear HB_bx HB_br HB_ba HB_bg he0
  have HB_bx := HB_bx2
  have HB_br := HB_br2
  have HB_ba := HB_ba2
  have HB_bg := HB_bg2
  rw [hs]
  clear hs
  go_wp2_with (first | (refine ld_blk rfl 106 _ rfl rfl _ HB_bx.out Tryz.underlying106 rfl Tryz.hInfo ?_))
  refine (hp_end' HO.out HNi.out d 4 w0_).mono ?_
  rintro e w1 ⟨rfl, he⟩
  have HE0 := hid he
  have HE1 := hid (HE_U.out.trans he)
  have HBr := hid (HB_br.out.of he)
  have HBa := hid (HB_ba.out.of he)
  clear he
  go_wp2_with (first | (refine st_blk rfl 106 _ _ rfl rfl rfl HBr.out rfl Tryz.hInfo (Hr.One.all (hR_one (X := X) HO.out _)) ?_; intro W1 hb1 hg1) | (refine st_blk rfl 46 _ _ rfl rfl rfl (HBa.out.grl hg1 (by have h1 := HN_V.out; simp; omega)) rfl Tryz.aInfo (a8E_one' _) ?_; intro W2 hb2 hg2))
  have hEf := (HE1.out.grl hg1 (by have h1 := HN_V.out; simp; omega)).grl hg2 (by have h1 := HN_V.out; simp; omega)
  have HGf := (GrL.of_ext (L := [br, ba]) HE0.out).trans ((hg1.wide (by simp)).trans (hg2.wide (by simp)))
  exact bodyPost_ret (res3 Tryz.results117 rfl rfl rfl (hb1.grl hg2 (by have h1 := HN_V.out; simp; omega)) hb2 Tryz.underlying106 rfl Tryz.hInfo Tryz.underlying46 rfl Tryz.aInfo) rfl ⟨X.es, HO.out.es, rfl, hEf, HEs.out.of enE_len hEf, .inl rfl⟩
 ·cases hU : hpUnpacked X.t X.c X.b d.ws with
  | none =>
   have HUn := hid hU
   have HR := hid (show hpChecked X.t X.c X.b X.dur d g.1 = hpEnd d 4 by unfold hpChecked; rw [hs, hU]; rfl)
   rw [HR.out]
   clear hU
   go_enter Tryz.func117, Tryz.ntmps117
   go_upto_region 1 with fail
   generalize hV_ : World.alloc _ _ = V
   have HE_V := hid (show Ext w V by rw [← hV_]; exact exP)
   have HB_bx := hid (show Blk V (w.heap.size) (hL (hR X d)) by rw [← hV_]; exact bkP)
   have HB_bg := hid (show Blk V (w.heap.size + 1) (gtE g) by rw [← hV_]; exact bkP)
   have HB_br := hid (show Blk V (w.heap.size + 1 + 1) zH by rw [← hV_]; exact bkP)
   have HB_ba := hid (show Blk V (w.heap.size + 1 + 1 + 1) [.int .i64 0, .int .i64 0, .int .i64 0, .int .u32 0, .int .u32 0, .int .i64 0, .int .u32 0, .int .u32 0] by rw [← hV_]; exact bkP)
   clear hV_
   obtain ⟨ba, hg_ba⟩ : ∃ g, g = w.heap.size + 1 + 1 + 1 := ⟨_, rfl⟩
   simp only [← hg_ba] at HB_ba ⊢
   obtain ⟨br, hg_br⟩ : ∃ g, g = w.heap.size + 1 + 1 := ⟨_, rfl⟩
   simp only [← hg_br] at HB_br ⊢
   obtain ⟨bg, hg_bg⟩ : ∃ g, g = w.heap.size + 1 := ⟨_, rfl⟩
   simp only [← hg_bg] at HB_bg ⊢
   obtain ⟨bx, hg_bx⟩ : ∃ g, g = w.heap.size := ⟨_, rfl⟩
   simp only [← hg_bx] at HB_bx ⊢
   have HN_V := hid (show bx = w.heap.size ∧ bg = w.heap.size + 1 ∧ br = w.heap.size + 1 + 1 ∧ ba = w.heap.size + 1 + 1 + 1 ∧ ba < V.heap.size from ⟨hg_bx, hg_bg, hg_br, hg_ba, HB_ba.out.1⟩)
   clear hg_bx hg_bg hg_br hg_ba
   have w0 : V.cell? ⟨bg, 0, none⟩ = some (.int .i64 g.1.1) := HB_bg.out.2.2 0 _ rfl
   have w1 : V.cell? ⟨bg, 1, none⟩ = some (.int .u32 g.1.2.1) := HB_bg.out.2.2 1 _ rfl
   have w2 : V.cell? ⟨bg, 2, none⟩ = some (.int .u32 g.1.2.2) := HB_bg.out.2.2 2 _ rfl
   have wg := HB_bg.out.1
   go_wp2_with (first | (refine ld_blk rfl 106 _ rfl rfl _ HB_bx.out Tryz.underlying106 rfl Tryz.hInfo ?_))
   refine (hp_stale d HDn.out g.1 V).mono ?_
   rintro e w0_ ⟨rfl, he0⟩
   clear w0 w1 w2 wg
   have HE_U := hid (HE_V.out.trans he0)
   have HB_bx2 := hid (HB_bx.out.of he0)
   have HB_br2 := hid (HB_br.out.of he0)
   have HB_ba2 := hid (HB_ba.out.of he0)
   have HB_bg2 := hid (HB_bg.out.of he0)
   clear HB_bx HB_br HB_ba HB_bg he0
   have HB_bx := HB_bx2
   have HB_br := HB_br2
   have HB_ba := HB_ba2
   have HB_bg := HB_bg2
   rw [hs]
   clear hs
   go_wp2_with (first | (refine ld_blk rfl 106 _ rfl rfl _ HB_bx.out Tryz.underlying106 rfl Tryz.hInfo ?_))
   refine (hp_unpacked d HDn.out H3.out HNe.out HOk.out w0_ (HWs.out.of wdE_len HE_U.out) (HS.out.of HE_U.out)).mono ?_
   rintro e w3 ⟨ua, un, uc, uok, rfl, hx_, hm_⟩
   rw [HUn.out] at hm_
   dsimp only at hm_
   subst hm_
   have HE_w3 := hid (HE_U.out.trans hx_)
   have HB_bx2 := hid (HB_bx.out.of hx_)
   have HB_bg2 := hid (HB_bg.out.of hx_)
   have HB_br2 := hid (HB_br.out.of hx_)
   have HB_ba2 := hid (HB_ba.out.of hx_)
   clear HB_bx HB_bg HB_br HB_ba
   have HB_bx := HB_bx2
   have HB_bg := HB_bg2
   have HB_br := HB_br2
   have HB_ba := HB_ba2
   clear HB_bx2 HB_bg2 HB_br2 HB_ba2
   clear hx_
   go_wp2_with (first | (refine ld_blk rfl 106 _ rfl rfl _ HB_bx.out Tryz.underlying106 rfl Tryz.hInfo ?_))
   refine (hp_end' HO.out HNi.out d 4 w3).mono ?_
   rintro e w1 ⟨rfl, he⟩
   have HE0 := hid he
   have HE1 := hid (HE_w3.out.trans he)
   have HBr := hid (HB_br.out.of he)
   have HBa := hid (HB_ba.out.of he)
   clear he
   go_wp2_with (first | (refine st_blk rfl 106 _ _ rfl rfl rfl HBr.out rfl Tryz.hInfo (Hr.One.all (hR_one (X := X) HO.out _)) ?_; intro W1 hb1 hg1) | (refine st_blk rfl 46 _ _ rfl rfl rfl (HBa.out.grl hg1 (by have h1 := HN_V.out; simp; omega)) rfl Tryz.aInfo (a8E_one' _) ?_; intro W2 hb2 hg2))
   have hEf := (HE1.out.grl hg1 (by have h1 := HN_V.out; simp; omega)).grl hg2 (by have h1 := HN_V.out; simp; omega)
   have HGf := (GrL.of_ext (L := [br, ba]) HE0.out).trans ((hg1.wide (by simp)).trans (hg2.wide (by simp)))
   exact bodyPost_ret (res3 Tryz.results117 rfl rfl rfl (hb1.grl hg2 (by have h1 := HN_V.out; simp; omega)) hb2 Tryz.underlying106 rfl Tryz.hInfo Tryz.underlying46 rfl Tryz.aInfo) rfl ⟨X.es, HO.out.es, rfl, hEf, HEs.out.of enE_len hEf, .inl rfl⟩
  | some l =>
   by_cases hz : g.1.1 = 0
   ·have HUn := hid hU
    have HR := hid (show hpChecked X.t X.c X.b X.dur d g.1 = hpInstall X.dur { d with es := l } by unfold hpChecked; rw [hs, hU]; simp only [Bool.false_eq_true, if_false]; exact if_neg (fun h => h hz))
    rw [HR.out]
    have HDl := hid (show HdN { d with es := l } from ⟨HDn.out.seq, HDn.out.ref, HDn.out.at_, HDn.out.who, HDn.out.most, by show d.i ≤ l.length; rw [HI0.out]; exact Nat.zero_le _, by show l.length ≤ 100; have := hpUnpacked_len hU; have := HDn.out.ws; omega, HDn.out.ws, HDn.out.many⟩)
    clear hU
    have hzb : (g.1.1 != 0) = false := by rw [hz]; rfl
    have hzd : decide (g.1.1 = 0) = true := decide_eq_true hz
    clear hz
    go_enter Tryz.func117, Tryz.ntmps117
    go_upto_region 1 with fail
    generalize hV_ : World.alloc _ _ = V
    have HE_V := hid (show Ext w V by rw [← hV_]; exact exP)
    have HB_bx := hid (show Blk V (w.heap.size) (hL (hR X d)) by rw [← hV_]; exact bkP)
    have HB_bg := hid (show Blk V (w.heap.size + 1) (gtE g) by rw [← hV_]; exact bkP)
    have HB_br := hid (show Blk V (w.heap.size + 1 + 1) zH by rw [← hV_]; exact bkP)
    have HB_ba := hid (show Blk V (w.heap.size + 1 + 1 + 1) [.int .i64 0, .int .i64 0, .int .i64 0, .int .u32 0, .int .u32 0, .int .i64 0, .int .u32 0, .int .u32 0] by rw [← hV_]; exact bkP)
    clear hV_
    obtain ⟨ba, hg_ba⟩ : ∃ g, g = w.heap.size + 1 + 1 + 1 := ⟨_, rfl⟩
    simp only [← hg_ba] at HB_ba ⊢
    obtain ⟨br, hg_br⟩ : ∃ g, g = w.heap.size + 1 + 1 := ⟨_, rfl⟩
    simp only [← hg_br] at HB_br ⊢
    obtain ⟨bg, hg_bg⟩ : ∃ g, g = w.heap.size + 1 := ⟨_, rfl⟩
    simp only [← hg_bg] at HB_bg ⊢
    obtain ⟨bx, hg_bx⟩ : ∃ g, g = w.heap.size := ⟨_, rfl⟩
    simp only [← hg_bx] at HB_bx ⊢
    have HN_V := hid (show bx = w.heap.size ∧ bg = w.heap.size + 1 ∧ br = w.heap.size + 1 + 1 ∧ ba = w.heap.size + 1 + 1 + 1 ∧ ba < V.heap.size from ⟨hg_bx, hg_bg, hg_br, hg_ba, HB_ba.out.1⟩)
    clear hg_bx hg_bg hg_br hg_ba
    have w0 : V.cell? ⟨bg, 0, none⟩ = some (.int .i64 g.1.1) := HB_bg.out.2.2 0 _ rfl
    have w1 : V.cell? ⟨bg, 1, none⟩ = some (.int .u32 g.1.2.1) := HB_bg.out.2.2 1 _ rfl
    have w2 : V.cell? ⟨bg, 2, none⟩ = some (.int .u32 g.1.2.2) := HB_bg.out.2.2 2 _ rfl
    have wg := HB_bg.out.1
    go_wp2_with (first | (refine ld_blk rfl 106 _ rfl rfl _ HB_bx.out Tryz.underlying106 rfl Tryz.hInfo ?_))
    refine (hp_stale d HDn.out g.1 V).mono ?_
    rintro e w0_ ⟨rfl, he0⟩
    clear w0 w1 w2 wg
    have HE_U := hid (HE_V.out.trans he0)
    have HB_bx2 := hid (HB_bx.out.of he0)
    have HB_br2 := hid (HB_br.out.of he0)
    have HB_ba2 := hid (HB_ba.out.of he0)
    have HB_bg2 := hid (HB_bg.out.of he0)
    clear HB_bx HB_br HB_ba HB_bg he0
    have HB_bx := HB_bx2
    have HB_br := HB_br2
    have HB_ba := HB_ba2
    have HB_bg := HB_bg2
    rw [hs]
    clear hs
    go_wp2_with (first | (refine ld_blk rfl 106 _ rfl rfl _ HB_bx.out Tryz.underlying106 rfl Tryz.hInfo ?_))
    refine (hp_unpacked d HDn.out H3.out HNe.out HOk.out w0_ (HWs.out.of wdE_len HE_U.out) (HS.out.of HE_U.out)).mono ?_
    rintro e w3 ⟨ua, un, uc, uok, rfl, hx_, hm_⟩
    rw [HUn.out] at hm_
    obtain ⟨rfl, hsl, hnb⟩ := hm_
    have HSl := hid hsl
    have HNb := hid (fun a n c (h : Value.slice ua un uc = .slice (some a) n c) => Nat.le_trans HE_U.out.size (hnb a (by simp only [Value.slice.injEq] at h; exact h.1)))
    have HNb2 := hid (fun a n c (h : Value.slice ua un uc = .slice (some a) n c) => hnb a (by simp only [Value.slice.injEq] at h; exact h.1))
    clear hsl hnb
    have HU0 := hid (show br < w0_.heap.size ∧ ba < w0_.heap.size from ⟨HB_br.out.1, HB_ba.out.1⟩)
    have HE_w3 := hid (HE_U.out.trans hx_)
    have HB_bx2 := hid (HB_bx.out.of hx_)
    have HB_bg2 := hid (HB_bg.out.of hx_)
    have HB_br2 := hid (HB_br.out.of hx_)
    have HB_ba2 := hid (HB_ba.out.of hx_)
    clear HB_bx HB_bg HB_br HB_ba
    have HB_bx := HB_bx2
    have HB_bg := HB_bg2
    have HB_br := HB_br2
    have HB_ba := HB_ba2
    clear HB_bx2 HB_bg2 HB_br2 HB_ba2
    clear hx_
    have x_g := HB_bx.out.1
    have x_f := HB_bx.out.2.1
    have x_es : w3.cell? ⟨bx, 11, none⟩ = some X.es := HB_bx.out.2.2 11 _ rfl
    go_upto_region 7 with fail
    generalize hZ_ : World.setCell _ _ _ = Q
    have HG_Q := hid (show GrL [bx] w3 Q by rw [← hZ_]; exact glP)
    have HB_bx2 := hid (show Blk Q bx (hL (hR { X with es := .slice ua un uc } { d with es := l })) by rw [← hZ_]; exact HB_bx.out.set 11 (of_decide_eq_true rfl) _)
    clear hZ_ HB_bx x_es x_g x_f
    have HB_bx := HB_bx2
    clear HB_bx2
    have HE_Q := hid (HE_w3.out.grl HG_Q.out (by have h1 := HN_V.out; simp; omega))
    have HB_br2 := hid (HB_br.out.grl HG_Q.out (by have h1 := HN_V.out; simp; omega))
    clear HB_br
    have HB_br := HB_br2
    clear HB_br2
    have HB_ba2 := hid (HB_ba.out.grl HG_Q.out (by have h1 := HN_V.out; simp; omega))
    clear HB_ba
    have HB_ba := HB_ba2
    clear HB_ba2
    have HB_bg2 := hid (HB_bg.out.grl HG_Q.out (by have h1 := HN_V.out; simp; omega))
    clear HB_bg
    have HB_bg := HB_bg2
    clear HB_bg2
    have HSQ := hid (show Sl Q 6 enE (.slice ua un uc) l from Sl.grl_own enE_len HSl.out HG_Q.out (by intro a n c h; have h1 := HNb2.out a n c h; have h2 := HN_V.out; have h3 := HU0.out; simp; omega))
    have w0 : Q.cell? ⟨bg, 0, none⟩ = some (.int .i64 g.1.1) := HB_bg.out.2.2 0 _ rfl
    have wg := HB_bg.out.1
    go_wp2_with (first | (refine ld_blk rfl 106 _ rfl rfl _ HB_bx.out Tryz.underlying106 rfl Tryz.hInfo ?_))
    clear w0 wg
    refine (hp_install (X := { X with es := .slice ua un uc }) ⟨HO.out.ws, rfl, HO.out.inn⟩ { d with es := l } HDl.out Q HSQ.out).mono ?_
    rintro e w1 ⟨rfl, he⟩
    have HE0 := hid he
    have HE1 := hid (HE_Q.out.trans he)
    have HBr := hid (HB_br.out.of he)
    have HBa := hid (HB_ba.out.of he)
    clear he
    go_wp2_with (first | (refine st_blk rfl 106 _ _ rfl rfl rfl HBr.out rfl Tryz.hInfo (Hr.One.all (hR_one (X := { X with es := .slice ua un uc }) ⟨HO.out.ws, rfl, HO.out.inn⟩ _)) ?_; intro W1 hb1 hg1) | (refine st_blk rfl 46 _ _ rfl rfl rfl (HBa.out.grl hg1 (by have h1 := HN_V.out; simp; omega)) rfl Tryz.aInfo (a8E_one' _) ?_; intro W2 hb2 hg2))
    have hEf := (HE1.out.grl hg1 (by have h1 := HN_V.out; simp; omega)).grl hg2 (by have h1 := HN_V.out; simp; omega)
    have HGf := (GrL.of_ext (L := [br, ba]) HE0.out).trans ((hg1.wide (by simp)).trans (hg2.wide (by simp)))
    exact bodyPost_ret (res3 Tryz.results117 rfl rfl rfl (hb1.grl hg2 (by have h1 := HN_V.out; simp; omega)) hb2 Tryz.underlying106 rfl Tryz.hInfo Tryz.underlying46 rfl Tryz.aInfo) rfl ⟨.slice ua un uc, rfl, rfl, hEf, by rw [hpInstall_es]; exact Sl.grl_own enE_len HSQ.out HGf (by intro a n c h; have h1 := HNb2.out a n c h; have h2 := HN_V.out; have h3 := HU0.out; simp; omega), .inr HNb.out⟩
   ·have HUn := hid hU
    have HR := hid (show hpChecked X.t X.c X.b X.dur d g.1 = hpRelease X.dur { d with es := l } by unfold hpChecked; rw [hs, hU]; simp only [Bool.false_eq_true, if_false]; exact if_pos hz)
    rw [HR.out]
    have HDl := hid (show HdN { d with es := l } from ⟨HDn.out.seq, HDn.out.ref, HDn.out.at_, HDn.out.who, HDn.out.most, by show d.i ≤ l.length; rw [HI0.out]; exact Nat.zero_le _, by show l.length ≤ 100; have := hpUnpacked_len hU; have := HDn.out.ws; omega, HDn.out.ws, HDn.out.many⟩)
    clear hU
    have hzb : (g.1.1 != 0) = true := bne_iff_ne.2 hz
    have hzd : decide (g.1.1 = 0) = false := decide_eq_false hz
    clear hz
    go_enter Tryz.func117, Tryz.ntmps117
    go_upto_region 1 with fail
    generalize hV_ : World.alloc _ _ = V
    have HE_V := hid (show Ext w V by rw [← hV_]; exact exP)
    have HB_bx := hid (show Blk V (w.heap.size) (hL (hR X d)) by rw [← hV_]; exact bkP)
    have HB_bg := hid (show Blk V (w.heap.size + 1) (gtE g) by rw [← hV_]; exact bkP)
    have HB_br := hid (show Blk V (w.heap.size + 1 + 1) zH by rw [← hV_]; exact bkP)
    have HB_ba := hid (show Blk V (w.heap.size + 1 + 1 + 1) [.int .i64 0, .int .i64 0, .int .i64 0, .int .u32 0, .int .u32 0, .int .i64 0, .int .u32 0, .int .u32 0] by rw [← hV_]; exact bkP)
    clear hV_
    obtain ⟨ba, hg_ba⟩ : ∃ g, g = w.heap.size + 1 + 1 + 1 := ⟨_, rfl⟩
    simp only [← hg_ba] at HB_ba ⊢
    obtain ⟨br, hg_br⟩ : ∃ g, g = w.heap.size + 1 + 1 := ⟨_, rfl⟩
    simp only [← hg_br] at HB_br ⊢
    obtain ⟨bg, hg_bg⟩ : ∃ g, g = w.heap.size + 1 := ⟨_, rfl⟩
    simp only [← hg_bg] at HB_bg ⊢
    obtain ⟨bx, hg_bx⟩ : ∃ g, g = w.heap.size := ⟨_, rfl⟩
    simp only [← hg_bx] at HB_bx ⊢
    have HN_V := hid (show bx = w.heap.size ∧ bg = w.heap.size + 1 ∧ br = w.heap.size + 1 + 1 ∧ ba = w.heap.size + 1 + 1 + 1 ∧ ba < V.heap.size from ⟨hg_bx, hg_bg, hg_br, hg_ba, HB_ba.out.1⟩)
    clear hg_bx hg_bg hg_br hg_ba
    have w0 : V.cell? ⟨bg, 0, none⟩ = some (.int .i64 g.1.1) := HB_bg.out.2.2 0 _ rfl
    have w1 : V.cell? ⟨bg, 1, none⟩ = some (.int .u32 g.1.2.1) := HB_bg.out.2.2 1 _ rfl
    have w2 : V.cell? ⟨bg, 2, none⟩ = some (.int .u32 g.1.2.2) := HB_bg.out.2.2 2 _ rfl
    have wg := HB_bg.out.1
    go_wp2_with (first | (refine ld_blk rfl 106 _ rfl rfl _ HB_bx.out Tryz.underlying106 rfl Tryz.hInfo ?_))
    refine (hp_stale d HDn.out g.1 V).mono ?_
    rintro e w0_ ⟨rfl, he0⟩
    clear w0 w1 w2 wg
    have HE_U := hid (HE_V.out.trans he0)
    have HB_bx2 := hid (HB_bx.out.of he0)
    have HB_br2 := hid (HB_br.out.of he0)
    have HB_ba2 := hid (HB_ba.out.of he0)
    have HB_bg2 := hid (HB_bg.out.of he0)
    clear HB_bx HB_br HB_ba HB_bg he0
    have HB_bx := HB_bx2
    have HB_br := HB_br2
    have HB_ba := HB_ba2
    have HB_bg := HB_bg2
    rw [hs]
    clear hs
    go_wp2_with (first | (refine ld_blk rfl 106 _ rfl rfl _ HB_bx.out Tryz.underlying106 rfl Tryz.hInfo ?_))
    refine (hp_unpacked d HDn.out H3.out HNe.out HOk.out w0_ (HWs.out.of wdE_len HE_U.out) (HS.out.of HE_U.out)).mono ?_
    rintro e w3 ⟨ua, un, uc, uok, rfl, hx_, hm_⟩
    rw [HUn.out] at hm_
    obtain ⟨rfl, hsl, hnb⟩ := hm_
    have HSl := hid hsl
    have HNb := hid (fun a n c (h : Value.slice ua un uc = .slice (some a) n c) => Nat.le_trans HE_U.out.size (hnb a (by simp only [Value.slice.injEq] at h; exact h.1)))
    have HNb2 := hid (fun a n c (h : Value.slice ua un uc = .slice (some a) n c) => hnb a (by simp only [Value.slice.injEq] at h; exact h.1))
    clear hsl hnb
    have HU0 := hid (show br < w0_.heap.size ∧ ba < w0_.heap.size from ⟨HB_br.out.1, HB_ba.out.1⟩)
    have HE_w3 := hid (HE_U.out.trans hx_)
    have HB_bx2 := hid (HB_bx.out.of hx_)
    have HB_bg2 := hid (HB_bg.out.of hx_)
    have HB_br2 := hid (HB_br.out.of hx_)
    have HB_ba2 := hid (HB_ba.out.of hx_)
    clear HB_bx HB_bg HB_br HB_ba
    have HB_bx := HB_bx2
    have HB_bg := HB_bg2
    have HB_br := HB_br2
    have HB_ba := HB_ba2
    clear HB_bx2 HB_bg2 HB_br2 HB_ba2
    clear hx_
    have x_g := HB_bx.out.1
    have x_f := HB_bx.out.2.1
    have x_es : w3.cell? ⟨bx, 11, none⟩ = some X.es := HB_bx.out.2.2 11 _ rfl
    go_upto_region 7 with fail
    generalize hZ_ : World.setCell _ _ _ = Q
    have HG_Q := hid (show GrL [bx] w3 Q by rw [← hZ_]; exact glP)
    have HB_bx2 := hid (show Blk Q bx (hL (hR { X with es := .slice ua un uc } { d with es := l })) by rw [← hZ_]; exact HB_bx.out.set 11 (of_decide_eq_true rfl) _)
    clear hZ_ HB_bx x_es x_g x_f
    have HB_bx := HB_bx2
    clear HB_bx2
    have HE_Q := hid (HE_w3.out.grl HG_Q.out (by have h1 := HN_V.out; simp; omega))
    have HB_br2 := hid (HB_br.out.grl HG_Q.out (by have h1 := HN_V.out; simp; omega))
    clear HB_br
    have HB_br := HB_br2
    clear HB_br2
    have HB_ba2 := hid (HB_ba.out.grl HG_Q.out (by have h1 := HN_V.out; simp; omega))
    clear HB_ba
    have HB_ba := HB_ba2
    clear HB_ba2
    have HB_bg2 := hid (HB_bg.out.grl HG_Q.out (by have h1 := HN_V.out; simp; omega))
    clear HB_bg
    have HB_bg := HB_bg2
    clear HB_bg2
    have HSQ := hid (show Sl Q 6 enE (.slice ua un uc) l from Sl.grl_own enE_len HSl.out HG_Q.out (by intro a n c h; have h1 := HNb2.out a n c h; have h2 := HN_V.out; have h3 := HU0.out; simp; omega))
    have w0 : Q.cell? ⟨bg, 0, none⟩ = some (.int .i64 g.1.1) := HB_bg.out.2.2 0 _ rfl
    have wg := HB_bg.out.1
    go_wp2_with (first | (refine ld_blk rfl 106 _ rfl rfl _ HB_bx.out Tryz.underlying106 rfl Tryz.hInfo ?_))
    clear w0 wg
    refine (hp_release (X := { X with es := .slice ua un uc }) ⟨HO.out.ws, rfl, HO.out.inn⟩ { d with es := l } Q).mono ?_
    rintro e w1 ⟨rfl, he⟩
    have HE0 := hid he
    have HE1 := hid (HE_Q.out.trans he)
    have HBr := hid (HB_br.out.of he)
    have HBa := hid (HB_ba.out.of he)
    clear he
    go_wp2_with (first | (refine st_blk rfl 106 _ _ rfl rfl rfl HBr.out rfl Tryz.hInfo (Hr.One.all (hR_one (X := { X with es := .slice ua un uc }) ⟨HO.out.ws, rfl, HO.out.inn⟩ _)) ?_; intro W1 hb1 hg1) | (refine st_blk rfl 46 _ _ rfl rfl rfl (HBa.out.grl hg1 (by have h1 := HN_V.out; simp; omega)) rfl Tryz.aInfo (a8E_one' _) ?_; intro W2 hb2 hg2))
    have hEf := (HE1.out.grl hg1 (by have h1 := HN_V.out; simp; omega)).grl hg2 (by have h1 := HN_V.out; simp; omega)
    have HGf := (GrL.of_ext (L := [br, ba]) HE0.out).trans ((hg1.wide (by simp)).trans (hg2.wide (by simp)))
    exact bodyPost_ret (res3 Tryz.results117 rfl rfl rfl (hb1.grl hg2 (by have h1 := HN_V.out; simp; omega)) hb2 Tryz.underlying106 rfl Tryz.hInfo Tryz.underlying46 rfl Tryz.aInfo) rfl ⟨.slice ua un uc, rfl, rfl, hEf, by rw [hpRelease_es]; exact Sl.grl_own enE_len HSQ.out HGf (by intro a n c h; have h1 := HNb2.out a n c h; have h2 := HN_V.out; have h3 := HU0.out; simp; omega), .inr HNb.out⟩
end Go.Proofs.YtiacdohaiidehaaGreatDoor
