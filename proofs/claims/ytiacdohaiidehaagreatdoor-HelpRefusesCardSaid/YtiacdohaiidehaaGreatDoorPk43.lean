/- Walks of package help: Status, nested. -/
import Derived.Test.YtiacdohaiidehaaGreatDoorPk42
namespace Go.Proofs.YtiacdohaiidehaaGreatDoor
set_option linter.unusedSimpArgs false
set_option linter.unusedVariables false
open Go.RowKit
theorem st_new {P : Program} {w : World} {b : Nat} {cs l : List Value} {ops : Array Oper} {rest : List Oper} {op : Oper} {a : Act} {Q : Exit → Act → World → Prop} (hgd : op.guard = none) (ty : TypeId) (x y : Operand) (ho : op.op = .store ty x y)
 (hx : a.eval x = .pointer (some ⟨b, 0, none⟩)) (hy : a.eval y = .agg cs.toArray) (hb : Blk w b l) (e : l.length = cs.length)
 (hi : (P.info? ty).map (·.size) = some cs.length) (h1 : ∀ v ∈ cs, v.oneCell' = true) (W0 : World) (hW0 : Ext W0 w) (hWb : W0.heap.size ≤ b)
 (h : ∀ W, Blk W b cs → Ext W0 W → wpList P ops Q rest (a.put op.dst undef) W) : wpList P ops Q (op :: rest) a w :=
 st_blk hgd ty x y ho hx hy hb e hi h1 fun W hbW hg => h W hbW (hW0.grl hg (by simp; exact hWb))
theorem assert_hp (v : Value) (w : World) : (Instr.typeAssert (.iface hpT v) 33 hpT true).run Tryz.prog w = .ok (.tuple #[v, .bool true]) w := by kernel_rfl
set_option maxRecDepth 100000 in
set_option maxHeartbeats 1000000 in
theorem hp_Status (h : Hr) (ho : h.One) (w : World) : Calls Tryz.prog 13 #[.iface hpT (.agg (hL h).toArray)] w fun e w' => e = .returned (.tuple #[.int .i64 (if h.ended = true then h.vd else 0), .bool h.ended]) ∧ Ext w w' := by
 have HO := hid ho
 clear ho
 have hat := assert_hp
 cases hen : h.ended
 ·go_enter Tryz.func13, Tryz.ntmps13
  go_upto_region 2 with (refine st_new rfl 106 _ _ rfl rfl rfl (show Blk _ w.heap.size zH from by exact bkP) rfl Tryz.hInfo HO.out.all w (by exact exP) (Nat.le_refl _) ?_; intro W1 hb1 hE1)
  have x_e : W1.cell? ⟨w.heap.size, 18, none⟩ = some (.bool false) := by rw [← hen]; exact hb1.2.2 18 _ rfl
  have x_v : W1.cell? ⟨w.heap.size, 13, none⟩ = some (.int .i64 h.vd) := hb1.2.2 13 _ rfl
  have x_g := hb1.1
  clear hen
  go_wp2_with fail
  go_ret2
  exact ⟨rfl, hE1⟩
 ·go_enter Tryz.func13, Tryz.ntmps13
  go_upto_region 2 with (refine st_new rfl 106 _ _ rfl rfl rfl (show Blk _ w.heap.size zH from by exact bkP) rfl Tryz.hInfo HO.out.all w (by exact exP) (Nat.le_refl _) ?_; intro W1 hb1 hE1)
  have x_e : W1.cell? ⟨w.heap.size, 18, none⟩ = some (.bool true) := by rw [← hen]; exact hb1.2.2 18 _ rfl
  have x_v : W1.cell? ⟨w.heap.size, 13, none⟩ = some (.int .i64 h.vd) := hb1.2.2 13 _ rfl
  have x_g := hb1.1
  clear hen
  go_wp2_with fail
  go_ret2
  exact ⟨rfl, hE1⟩
def NePost (X : HX) (d : Hd) (P : Nat → Prop) (R : World → (Nat → Prop) → Hr → A8 → Bool → Prop) (w : World) (e : Ending) (w' : World) : Prop :=
 ∃ h' a dn, h'.One ∧ Ext w w' ∧ R w' (fun b => P b ∨ w.heap.size ≤ b) h' a dn ∧
 ((dn = false ∧ e = .returned (.tuple #[.agg (hL (hR { X with inn := .iface hpT (.agg (hL h').toArray) } { d with nx := 7 })).toArray, .agg (a8E a).toArray, .bool false])) ∨
  (dn = true ∧ (if h'.ended = true then h'.vd else 0) = 4 ∧ e = .returned (.tuple #[.agg (hL (hR { X with inn := .nilIface } (hpAsk d (swapA d.cur.loc d.met (d.met.1, d.met.2.1, 0)) 8).1)).toArray, .agg (a8E (hpAsk d (swapA d.cur.loc d.met (d.met.1, d.met.2.1, 0)) 8).2.1).toArray, .bool (hpAsk d (swapA d.cur.loc d.met (d.met.1, d.met.2.1, 0)) 8).2.2])) ∨
  (dn = true ∧ ¬ (if h'.ended = true then h'.vd else 0) = 4 ∧ e = .returned (.tuple #[.agg (hL (hR { X with inn := .nilIface } (hpInstall X.dur d).1)).toArray, .agg (a8E (hpInstall X.dur d).2.1).toArray, .bool (hpInstall X.dur d).2.2])))
set_option maxRecDepth 100000 in
set_option maxHeartbeats 1000000 in
theorem hp_nested {X : HX} (ho : X.One) (d : Hd) (hd : HdN d) (hl : d.i < d.es.length) (hh : Hr) (hin : X.inn = .iface hpT (.agg (hL hh).toArray)) (g : Gt) (w : World) (he : Sl w 6 enE X.es d.es) (P : Nat → Prop) (hP : ∀ b, P b → b < w.heap.size) {R : World → (Nat → Prop) → Hr → A8 → Bool → Prop} (hR_ : RSt R)
 (hcall : ∀ V, Ext w V → Calls Tryz.prog 198 #[.agg (hL hh).toArray, .agg (gtE g).toArray] V (HnPost P R V)) : Calls Tryz.prog 176 #[.agg (hL (hR X d)).toArray, .agg (gtE g).toArray] w (NePost X d P R w) := by
 have HO := hid ho
 have HDn := hid hd
 have HL := hid hl
 have HEs := hid he
 have HPb := hid hP
 have HRs := hid hR_
 have HC := hid hcall
 have HIn := hid hin
 clear ho hd hl he hP hR_ hcall hin
 have hfi := codeT_hp.finds
 simp [go_sem] at hfi
 have hnt := codeT_hp.enters
 go_enter Tryz.func176, Tryz.ntmps176
 go_upto_region 1 with fail
 generalize hV_ : World.alloc _ _ = V
 have HE_V := hid (show Ext w V by rw [← hV_]; exact exP)
 have HB_bx := hid (show Blk V (w.heap.size) (hL (hR X d)) by rw [← hV_]; exact bkP)
 have HB_bg := hid (show Blk V (w.heap.size + 1) (gtE g) by rw [← hV_]; exact bkP)
 have HB_br := hid (show Blk V (w.heap.size + 1 + 1) zH by rw [← hV_]; exact bkP)
 have HB_ba := hid (show Blk V (w.heap.size + 1 + 1 + 1) [.int .i64 0, .int .i64 0, .int .i64 0, .int .u32 0, .int .u32 0, .int .i64 0, .int .u32 0, .int .u32 0] by rw [← hV_]; exact bkP)
 clear hV_
 obtain ⟨ba, hg_ba⟩ : ∃ g, g = w.heap.size + 1 + 1 + 1 := ⟨_, rfl⟩
 simp only [← hg_ba] at HB_ba ⊢
 obtain ⟨br, hg_br⟩ : ∃ g, g = w.heap.size + 1 + 1 := ⟨_, rfl⟩
 simp only [← hg_br] at HB_br ⊢
 obtain ⟨bg, hg_bg⟩ : ∃ g, g = w.heap.size + 1 := ⟨_, rfl⟩
 simp only [← hg_bg] at HB_bg ⊢
 obtain ⟨bx, hg_bx⟩ : ∃ g, g = w.heap.size := ⟨_, rfl⟩
 simp only [← hg_bx] at HB_bx ⊢
 have HN_V := hid (show bx = w.heap.size ∧ bg = w.heap.size + 1 ∧ br = w.heap.size + 1 + 1 ∧ ba = w.heap.size + 1 + 1 + 1 ∧ ba < V.heap.size from ⟨hg_bx, hg_bg, hg_br, hg_ba, HB_ba.out.1⟩)
 clear hg_bx hg_bg hg_br hg_ba
 have x_inn : V.cell? ⟨bx, 17, none⟩ = some (.iface hpT (.agg (hL hh).toArray)) := by rw [← HIn.out]; exact HB_bx.out.2.2 17 _ rfl
 have x_g := HB_bx.out.1
 go_wp2_with (first | (refine ld_blk rfl 106 _ rfl rfl _ HB_bx.out Tryz.underlying106 rfl Tryz.hInfo ?_) | (refine ld_blk rfl 50 _ rfl rfl _ HB_bg.out Tryz.underlying50 rfl Tryz.gInfo ?_))
 refine (HC.out V HE_V.out).mono ?_
 rintro e w1 ⟨h', a, dn, hone, rfl, hx_, hr_⟩
 have HOn := hid hone
 have HRr := hid hr_
 clear hone hr_ x_inn x_g hfi hnt
 have HE_w1 := hid (HE_V.out.trans hx_)
 have HB_bx2 := hid (HB_bx.out.of hx_)
 have HB_bg2 := hid (HB_bg.out.of hx_)
 have HB_br2 := hid (HB_br.out.of hx_)
 have HB_ba2 := hid (HB_ba.out.of hx_)
 clear HB_bx HB_bg HB_br HB_ba
 have HB_bx := HB_bx2
 have HB_bg := HB_bg2
 have HB_br := HB_br2
 have HB_ba := HB_ba2
 clear HB_bx2 HB_bg2 HB_br2 HB_ba2
 have HVw1 := hid hx_
 clear hx_
 go_upto_region 2 with (refine st_new rfl 46 _ _ rfl rfl rfl (show Blk _ w1.heap.size [.int .i64 0, .int .i64 0, .int .i64 0, .int .u32 0, .int .u32 0, .int .i64 0, .int .u32 0, .int .u32 0] from by exact bkP) rfl Tryz.aInfo (a8E_one' a) w1 (by exact exP) (Nat.le_refl _) ?_; intro W1 hb1 hE1)
 obtain ⟨bq, hbq⟩ : ∃ q, q = w1.heap.size := ⟨_, rfl⟩
 rw [← hbq] at hb1
 simp only [← hbq]
 have HBQ := hid hbq
 have HNq := hid (show bq ≠ bx ∧ bq ≠ br ∧ bq ≠ ba by have h1 := HB_bx.out.1; have h2 := HB_br.out.1; have h3 := HB_ba.out.1; omega)
 have HB_bq := hid hb1
 have HG1 := hid (GrL.of_ext (L := [bx, br, ba]) hE1)
 clear hb1 hbq
 have HE_W1 := hid (HE_w1.out.trans hE1)
 have HB_bx2 := hid (HB_bx.out.of hE1)
 have HB_bg2 := hid (HB_bg.out.of hE1)
 have HB_br2 := hid (HB_br.out.of hE1)
 have HB_ba2 := hid (HB_ba.out.of hE1)
 clear HB_bx HB_bg HB_br HB_ba
 have HB_bx := HB_bx2
 have HB_bg := HB_bg2
 have HB_br := HB_br2
 have HB_ba := HB_ba2
 clear HB_bx2 HB_bg2 HB_br2 HB_ba2
 clear hE1
 have x_inn : W1.cell? ⟨bx, 17, none⟩ = some X.inn := HB_bx.out.2.2 17 _ rfl
 have x_g := HB_bx.out.1
 have x_f := HB_bx.out.2.1
 go_upto_region 3 with fail
 generalize hZ_ : World.setCell _ _ _ = Q
 have HG_Q := hid (show GrL [bx] W1 Q by rw [← hZ_]; exact glP)
 have HB_bx2 := hid (show Blk Q bx (hL (hR { X with inn := .iface hpT (.agg (hL h').toArray) } d)) by rw [← hZ_]; exact HB_bx.out.set 17 (of_decide_eq_true rfl) _)
 clear hZ_ HB_bx x_inn x_g x_f
 have HB_bx := HB_bx2
 clear HB_bx2
 have HE_Q := hid (HE_W1.out.grl HG_Q.out (by have h1 := HN_V.out; simp; omega))
 have HB_br2 := hid (HB_br.out.grl HG_Q.out (by have h1 := HN_V.out; simp; omega))
 clear HB_br
 have HB_br := HB_br2
 clear HB_br2
 have HB_ba2 := hid (HB_ba.out.grl HG_Q.out (by have h1 := HN_V.out; simp; omega))
 clear HB_ba
 have HB_ba := HB_ba2
 clear HB_ba2
 have HB_bg2 := hid (HB_bg.out.grl HG_Q.out (by have h1 := HN_V.out; simp; omega))
 clear HB_bg
 have HB_bg := HB_bg2
 clear HB_bg2
 have HB_bq2 := hid (HB_bq.out.grl HG_Q.out (by simp; exact HNq.out.1))
 clear HB_bq
 have HB_bq := HB_bq2
 clear HB_bq2
 have HG2 := hid (HG1.out.trans (HG_Q.out.wide (by simp)))
 cases dn
 ·go_wp2_with (first | (refine ld_blk rfl 106 _ rfl rfl _ HB_bx.out Tryz.underlying106 rfl Tryz.hInfo ?_) | (refine ld_blk rfl 46 _ rfl rfl _ HB_bq.out Tryz.underlying46 rfl Tryz.aInfo ?_))
  refine (hp_ask (X := { X with inn := .iface hpT (.agg (hL h').toArray) }) ⟨HO.out.ws, HO.out.es, rfl⟩ d a 7 Q).mono ?_
  rintro e w1 ⟨rfl, he⟩
  have HE0 := hid he
  have HE1 := hid (HE_Q.out.trans he)
  have HBr := hid (HB_br.out.of he)
  have HBa := hid (HB_ba.out.of he)
  clear he
  go_wp2_with (first | (refine st_blk rfl 106 _ _ rfl rfl rfl HBr.out rfl Tryz.hInfo (Hr.One.all (hR_one (X := { X with inn := .iface hpT (.agg (hL h').toArray) }) ⟨HO.out.ws, HO.out.es, rfl⟩ _)) ?_; intro W1 hb1 hg1) | (refine st_blk rfl 46 _ _ rfl rfl rfl (HBa.out.grl hg1 (by have h1 := HN_V.out; simp; omega)) rfl Tryz.aInfo (a8E_one' _) ?_; intro W2 hb2 hg2))
  have hEf := (HE1.out.grl hg1 (by have h1 := HN_V.out; simp; omega)).grl hg2 (by have h1 := HN_V.out; simp; omega)
  have HGf := (GrL.of_ext (L := [bx, br, ba]) HE0.out).trans ((hg1.wide (by simp)).trans (hg2.wide (by simp)))
  have HGp := HG2
  have HGz := HGp.out.trans HGf
  exact bodyPost_ret (res3 Tryz.results176 rfl rfl rfl (hb1.grl hg2 (by have h1 := HN_V.out; simp; omega)) hb2 Tryz.underlying106 rfl Tryz.hInfo Tryz.underlying46 rfl Tryz.aInfo) rfl ⟨h', a, false, HOn.out, hEf, HRs.out.imp (HRs.out.st HRr.out (HGz.kp (by
   intro q hq hb
   simp only [List.mem_cons, List.not_mem_nil, or_false] at hq
   have h1 := HN_V.out
   rcases hb with hb | hb
   ·have h2 := HPb.out _ hb; omega
   ·omega)).agp) (fun q hq => by
   rcases hq with hq | hq
   ·exact .inl hq
   ·exact .inr (Nat.le_trans HE_V.out.size hq)), (.inl ⟨rfl, rfl⟩)⟩
 ·have x_inn : Q.cell? ⟨bx, 17, none⟩ = some (.iface hpT (.agg (hL h').toArray)) := HB_bx.out.2.2 17 _ rfl
  have x_g := HB_bx.out.1
  have x_f := HB_bx.out.2.1
  go_upto_region 6 with fail
  generalize hZ_ : World.setCell _ _ _ = Q2
  have HG_Q2 := hid (show GrL [bx] Q Q2 by rw [← hZ_]; exact glP)
  have HB_bx2 := hid (show Blk Q2 bx (hL (hR { X with inn := .nilIface } d)) by rw [← hZ_]; exact HB_bx.out.set 17 (of_decide_eq_true rfl) _)
  clear hZ_ HB_bx x_inn x_g x_f
  have HB_bx := HB_bx2
  clear HB_bx2
  have HE_Q2 := hid (HE_Q.out.grl HG_Q2.out (by have h1 := HN_V.out; simp; omega))
  have HB_br2 := hid (HB_br.out.grl HG_Q2.out (by have h1 := HN_V.out; simp; omega))
  clear HB_br
  have HB_br := HB_br2
  clear HB_br2
  have HB_ba2 := hid (HB_ba.out.grl HG_Q2.out (by have h1 := HN_V.out; simp; omega))
  clear HB_ba
  have HB_ba := HB_ba2
  clear HB_ba2
  have HB_bg2 := hid (HB_bg.out.grl HG_Q2.out (by have h1 := HN_V.out; simp; omega))
  clear HB_bg
  have HB_bg := HB_bg2
  clear HB_bg2
  have HB_bq2 := hid (HB_bq.out.grl HG_Q2.out (by simp; exact HNq.out.1))
  clear HB_bq
  have HB_bq := HB_bq2
  clear HB_bq2
  have HG3 := hid (HG2.out.trans (HG_Q2.out.wide (by simp)))
  go_wp2_with fail
  refine (hp_Status h' HOn.out Q2).mono ?_
  rintro e w4 ⟨rfl, hx_⟩
  have HG4 := hid (HG3.out.trans (GrL.of_ext hx_))
  have HE_w4 := hid (HE_Q2.out.trans hx_)
  have HB_bx2 := hid (HB_bx.out.of hx_)
  have HB_bg2 := hid (HB_bg.out.of hx_)
  have HB_br2 := hid (HB_br.out.of hx_)
  have HB_ba2 := hid (HB_ba.out.of hx_)
  clear HB_bx HB_bg HB_br HB_ba
  have HB_bx := HB_bx2
  have HB_bg := HB_bg2
  have HB_br := HB_br2
  have HB_ba := HB_ba2
  clear HB_bx2 HB_bg2 HB_br2 HB_ba2
  have HEU := hid (show Sl w4 6 enE X.es d.es from HEs.out.of enE_len HE_w4.out)
  clear hx_
  obtain ⟨s, hs⟩ : ∃ s, s = (if h'.ended = true then h'.vd else 0) := ⟨_, rfl⟩
  rw [← hs]
  by_cases h4 : s = 4
  ·have hsb : (s != 4) = false := by rw [h4]; rfl
   have H4 := hid (show (if h'.ended = true then h'.vd else 0) = 4 by rw [← hs]; exact h4)
   subst h4
   clear hs
   go_upto_region 9 with fail
   have x_m1 : w4.cell? ⟨bx, 14, none⟩ = some (.int .i64 d.met.1) := HB_bx.out.2.2 14 _ rfl
   have x_m2 : w4.cell? ⟨bx, 15, none⟩ = some (.int .u32 d.met.2.1) := HB_bx.out.2.2 15 _ rfl
   have x_m3 : w4.cell? ⟨bx, 16, none⟩ = some (.int .u32 d.met.2.2) := HB_bx.out.2.2 16 _ rfl
   have x_g := HB_bx.out.1
   have HL_ := hid (fun w' (h : Ext w4 w') => (And.intro (Nat.lt_of_lt_of_le x_g h.size) (And.intro (h.cell x_m1) (And.intro (h.cell x_m2) (h.cell x_m3)))))
   refine wp_region_facts [43, 44, 45, 46, 47, 48, 49, 50, 51, 52, 53, 54, 55, 56, 57, 58, 59] [0, 1, 2, 3, 4, 5, 6, 7, 8, 9, 10, 11, 12, 13, 14, 15, 16] rfl (fun w' => Ext w4 w') (fsAt [IsV (.agg (hL (hR { X with inn := .nilIface } d)).toArray), IsV (.agg (hL (hR { X with inn := .nilIface } d)).toArray), IsV (.int .i64 d.cur.loc), IsV ?_, IsV ?_, IsV ?_, IsV ?_, IsV ?_, IsV ?_, IsV ?_, IsV ?_, IsV ?_, IsV (.agg (a8E (swapA d.cur.loc d.met (d.met.1, d.met.2.1, 0))).toArray), IsV (.tuple #[.agg (hL (hR { X with inn := .nilIface } (hpAsk d (swapA d.cur.loc d.met (d.met.1, d.met.2.1, 0)) 8).1)).toArray, .agg (a8E (hpAsk d (swapA d.cur.loc d.met (d.met.1, d.met.2.1, 0)) 8).2.1).toArray, .bool (hpAsk d (swapA d.cur.loc d.met (d.met.1, d.met.2.1, 0)) 8).2.2]), IsV ?_, IsV ?_, IsV ?_]) (by kernel_rfl) (by kernel_rfl) ((Ext.refl _).drew) (fun w w' h he => h.trans he) (aC (fun _ _ _ h _ => h) (aC (fun _ _ _ h _ => h) (aC (fun _ _ _ h _ => h) (aC (fun _ _ _ h _ => h) (aC (fun _ _ _ h _ => h) (aC (fun _ _ _ h _ => h) (aC (fun _ _ _ h _ => h) (aC (fun _ _ _ h _ => h) (aC (fun _ _ _ h _ => h) (aC (fun _ _ _ h _ => h) (aC (fun _ _ _ h _ => h) (aC (fun _ _ _ h _ => h) (aC (fun _ _ _ h _ => h) (aC (fun _ _ _ h _ => h) (aC (fun _ _ _ h _ => h) (aC (fun _ _ _ h _ => h) (aC (fun _ _ _ h _ => h) (AllOn.nil)))))))))))))))))) (aC ?_ (aC ?_ (aC ?_ (aC ?_ (aC ?_ (aC ?_ (aC ?_ (aC ?_ (aC ?_ (aC ?_ (aC ?_ (aC ?_ (aC ?_ (aC ?_ (aC ?_ (aC ?_ (aC ?_ (AllOn.nil)))))))))))))))))) ?_
   rotate_left 12
   ·intro A w cx hO hD
    have e2 := evO hO 2 rfl
    clear hD hO
    refine hdW rfl rfl ?_
    refine ld_op _ _ rfl ((ev_tm A 2).trans e2) _ (HB_bx.out.of cx) Tryz.underlying106 rfl Tryz.hInfo ?_
    exact ⟨_, rfl, Ext.refl _, rfl⟩
   ·intro A w cx hO hD
    have e2 := evO hO 2 rfl
    clear hD hO
    refine hdW rfl rfl ?_
    refine ld_op _ _ rfl ((ev_tm A 2).trans e2) _ (HB_bx.out.of cx) Tryz.underlying106 rfl Tryz.hInfo ?_
    exact ⟨_, rfl, Ext.refl _, rfl⟩
   ·intro A w cx hO hD
    have e44 := evD (hD 1 (by kernel_rfl) 44 rfl)
    clear hD hO
    refine hdW rfl rfl ?_
    simp [go_sem, e44]
    refine (hp_place (X := { X with inn := .nilIface }) d _ (HEU.out.of enE_len cx) HL.out).mono ?_
    rintro e w' ⟨rfl, hx_⟩
    exact ⟨_, rfl, hx_, rfl⟩
   ·intro A w cx hO hD
    have e2 := evO hO 2 rfl
    clear hD hO
    refine hdV rfl ?_ rfl rfl ?_ ?_
    rotate_left 1
    ·simp [go_sem, e2, cx, HL_.out w cx]
     try with_reducible rfl
    ·exact IsV.mk (w := w)
   ·intro A w cx hO hD
    have e46 := evD (hD 3 (by kernel_rfl) 46 rfl)
    clear hD hO
    refine hdV rfl ?_ rfl rfl ?_ ?_
    rotate_left 1
    ·simp [go_sem, e46, cx, HL_.out w cx]
     try with_reducible rfl
    ·exact IsV.mk (w := w)
   ·intro A w cx hO hD
    have e2 := evO hO 2 rfl
    clear hD hO
    refine hdV rfl ?_ rfl rfl ?_ ?_
    rotate_left 1
    ·simp [go_sem, e2, cx, HL_.out w cx]
     try with_reducible rfl
    ·exact IsV.mk (w := w)
   ·intro A w cx hO hD
    have e48 := evD (hD 5 (by kernel_rfl) 48 rfl)
    clear hD hO
    refine hdV rfl ?_ rfl rfl ?_ ?_
    rotate_left 1
    ·simp [go_sem, e48, cx, HL_.out w cx]
     try with_reducible rfl
    ·exact IsV.mk (w := w)
   ·intro A w cx hO hD
    have e49 := evD (hD 6 (by kernel_rfl) 49 rfl)
    clear hD hO
    refine hdV rfl ?_ rfl rfl ?_ ?_
    rotate_left 1
    ·simp [go_sem, e49, cx, HL_.out w cx]
     try with_reducible rfl
    ·exact IsV.mk (w := w)
   ·intro A w cx hO hD
    have e2 := evO hO 2 rfl
    clear hD hO
    refine hdV rfl ?_ rfl rfl ?_ ?_
    rotate_left 1
    ·simp [go_sem, e2, cx, HL_.out w cx]
     try with_reducible rfl
    ·exact IsV.mk (w := w)
   ·intro A w cx hO hD
    have e51 := evD (hD 8 (by kernel_rfl) 51 rfl)
    clear hD hO
    refine hdV rfl ?_ rfl rfl ?_ ?_
    rotate_left 1
    ·simp [go_sem, e51, cx, HL_.out w cx]
     try with_reducible rfl
    ·exact IsV.mk (w := w)
   ·intro A w cx hO hD
    have e52 := evD (hD 9 (by kernel_rfl) 52 rfl)
    clear hD hO
    refine hdV rfl ?_ rfl rfl ?_ ?_
    rotate_left 1
    ·simp [go_sem, e52, cx, HL_.out w cx]
     try with_reducible rfl
    ·exact IsV.mk (w := w)
   ·intro A w cx hO hD
    have e50 := evD (hD 7 (by kernel_rfl) 50 rfl)
    have e53 := evD (hD 10 (by kernel_rfl) 53 rfl)
    clear hD hO
    refine hdV rfl ?_ rfl rfl ?_ ?_
    rotate_left 1
    ·simp [go_sem, e50, e53, cx, HL_.out w cx]
     try with_reducible rfl
    ·exact IsV.mk (w := w)
   ·intro A w cx hO hD
    have e45 := evD (hD 2 (by kernel_rfl) 45 rfl)
    have e47 := evD (hD 4 (by kernel_rfl) 47 rfl)
    have e54 := evD (hD 11 (by kernel_rfl) 54 rfl)
    clear hD hO
    refine hdW rfl rfl ?_
    simp [go_sem, Oper.wp, execOp, Oper.upon, e45, e47, e54, swapA]
    exact ⟨_, rfl, Ext.refl _, rfl⟩
   ·intro A w cx hO hD
    have e43 := evD (hD 0 (by kernel_rfl) 43 rfl)
    have e55 := evD (hD 12 (by kernel_rfl) 55 rfl)
    clear hD hO
    refine hdW rfl rfl ?_
    simp [go_sem, e43, e55]
    refine (hp_ask (X := { X with inn := .nilIface }) ⟨HO.out.ws, HO.out.es, rfl⟩ d (swapA d.cur.loc d.met (d.met.1, d.met.2.1, 0)) 8 _).mono ?_
    rintro e w' ⟨rfl, hx_⟩
    exact ⟨_, rfl, hx_, rfl⟩
   ·intro A w cx hO hD
    have e56 := evD (hD 13 (by kernel_rfl) 56 rfl)
    clear hD hO
    refine hdV rfl ?_ rfl rfl ?_ ?_
    rotate_left 1
    ·simp [go_sem, e56, cx, HL_.out w cx]
     try with_reducible rfl
    ·exact IsV.mk (w := w)
   ·intro A w cx hO hD
    have e56 := evD (hD 13 (by kernel_rfl) 56 rfl)
    clear hD hO
    refine hdV rfl ?_ rfl rfl ?_ ?_
    rotate_left 1
    ·simp [go_sem, e56, cx, HL_.out w cx]
     try with_reducible rfl
    ·exact IsV.mk (w := w)
   ·intro A w cx hO hD
    have e56 := evD (hD 13 (by kernel_rfl) 56 rfl)
    clear hD hO
    refine hdV rfl ?_ rfl rfl ?_ ?_
    rotate_left 1
    ·simp [go_sem, e56, cx, HL_.out w cx]
     try with_reducible rfl
    ·exact IsV.mk (w := w)
   intro u wx hC hF
   obtain ⟨f0, f1, f2, f3, f4, f5, f6, f7, f8, f9, f10, f11, f12, f13, f14, f15, f16, _⟩ := hF
   have g0 : u 0 = _ := f0
   have g1 : u 1 = _ := f1
   have g2 : u 2 = _ := f2
   have g3 : u 3 = _ := f3
   have g4 : u 4 = _ := f4
   have g5 : u 5 = _ := f5
   have g6 : u 6 = _ := f6
   have g7 : u 7 = _ := f7
   have g8 : u 8 = _ := f8
   have g9 : u 9 = _ := f9
   have g10 : u 10 = _ := f10
   have g11 : u 11 = _ := f11
   have g12 : u 12 = _ := f12
   have g13 : u 13 = _ := f13
   have g14 : u 14 = _ := f14
   have g15 : u 15 = _ := f15
   have g16 : u 16 = _ := f16
   simp only [fPut, Nat.zero_add, Nat.reduceAdd, g0, g1, g2, g3, g4, g5, g6, g7, g8, g9, g10, g11, g12, g13, g14, g15, g16, Act.put, List.setIfInBounds_toArray, List.set_cons_zero, List.set_cons_succ, List.length_cons, List.length_nil, List.drop_succ_cons, List.drop_zero]
   clear g0 g1 g2 g3 g4 g5 g6 g7 g8 g9 g10 g11 g12 g13 g14 g15 g16 f0 f1 f2 f3 f4 f5 f6 f7 f8 f9 f10 f11 f12 f13 f14 f15 f16
   have cx := hC
   have HE0 := hid cx
   have HE1 := hid (HE_w4.out.trans cx)
   have HBr := hid (HB_br.out.of cx)
   have HBa := hid (HB_ba.out.of cx)
   go_wp2_with (first | (refine st_blk rfl 106 _ _ rfl rfl (cs := hL (hR { X with inn := .nilIface } (hpAsk d (swapA d.cur.loc d.met (d.met.1, d.met.2.1, 0)) 8).1)) rfl HBr.out rfl Tryz.hInfo (Hr.One.all (hR_one (X := { X with inn := .nilIface }) ⟨HO.out.ws, HO.out.es, rfl⟩ _)) ?_; intro W1 hb1 hg1) | (refine st_blk rfl 46 _ _ rfl rfl (cs := a8E (hpAsk d (swapA d.cur.loc d.met (d.met.1, d.met.2.1, 0)) 8).2.1) rfl (HBa.out.grl hg1 (by have h1 := HN_V.out; simp; omega)) rfl Tryz.aInfo (a8E_one' _) ?_; intro W2 hb2 hg2))
   have hEf := (HE1.out.grl hg1 (by have h1 := HN_V.out; simp; omega)).grl hg2 (by have h1 := HN_V.out; simp; omega)
   have HGf := (GrL.of_ext (L := [bx, br, ba]) HE0.out).trans ((hg1.wide (by simp)).trans (hg2.wide (by simp)))
   have HGp := HG4
   have HGz := HGp.out.trans HGf
   exact bodyPost_ret (res3 Tryz.results176 rfl rfl rfl (hb1.grl hg2 (by have h1 := HN_V.out; simp; omega)) hb2 Tryz.underlying106 rfl Tryz.hInfo Tryz.underlying46 rfl Tryz.aInfo) rfl ⟨h', a, true, HOn.out, hEf, HRs.out.imp (HRs.out.st HRr.out (HGz.kp (by
    intro q hq hb
    simp only [List.mem_cons, List.not_mem_nil, or_false] at hq
    have h1 := HN_V.out
    rcases hb with hb | hb
    ·have h2 := HPb.out _ hb; omega
    ·omega)).agp) (fun q hq => by
    rcases hq with hq | hq
    ·exact .inl hq
    ·exact .inr (Nat.le_trans HE_V.out.size hq)), (.inr (.inl ⟨rfl, H4.out, rfl⟩))⟩
  ·have hsb : (s != 4) = true := bne_iff_ne.2 h4
   have H4 := hid (show ¬ (if h'.ended = true then h'.vd else 0) = 4 by rw [← hs]; exact h4)
   clear h4 hs
   go_wp2_with (first | (refine ld_blk rfl 106 _ rfl rfl _ HB_bx.out Tryz.underlying106 rfl Tryz.hInfo ?_))
   refine (hp_install (X := { X with inn := .nilIface }) ⟨HO.out.ws, HO.out.es, rfl⟩ d HDn.out w4 HEU.out).mono ?_
   rintro e w1 ⟨rfl, he⟩
   have HE0 := hid he
   have HE1 := hid (HE_w4.out.trans he)
   have HBr := hid (HB_br.out.of he)
   have HBa := hid (HB_ba.out.of he)
   clear he
   go_wp2_with (first | (refine st_blk rfl 106 _ _ rfl rfl rfl HBr.out rfl Tryz.hInfo (Hr.One.all (hR_one (X := { X with inn := .nilIface }) ⟨HO.out.ws, HO.out.es, rfl⟩ _)) ?_; intro W1 hb1 hg1) | (refine st_blk rfl 46 _ _ rfl rfl rfl (HBa.out.grl hg1 (by have h1 := HN_V.out; simp; omega)) rfl Tryz.aInfo (a8E_one' _) ?_; intro W2 hb2 hg2))
   have hEf := (HE1.out.grl hg1 (by have h1 := HN_V.out; simp; omega)).grl hg2 (by have h1 := HN_V.out; simp; omega)
   have HGf := (GrL.of_ext (L := [bx, br, ba]) HE0.out).trans ((hg1.wide (by simp)).trans (hg2.wide (by simp)))
   have HGp := HG4
   have HGz := HGp.out.trans HGf
   exact bodyPost_ret (res3 Tryz.results176 rfl rfl rfl (hb1.grl hg2 (by have h1 := HN_V.out; simp; omega)) hb2 Tryz.underlying106 rfl Tryz.hInfo Tryz.underlying46 rfl Tryz.aInfo) rfl ⟨h', a, true, HOn.out, hEf, HRs.out.imp (HRs.out.st HRr.out (HGz.kp (by
    intro q hq hb
    simp only [List.mem_cons, List.not_mem_nil, or_false] at hq
    have h1 := HN_V.out
    rcases hb with hb | hb
    ·have h2 := HPb.out _ hb; omega
    ·omega)).agp) (fun q hq => by
    rcases hq with hq | hq
    ·exact .inl hq
    ·exact .inr (Nat.le_trans HE_V.out.size hq)), (.inr (.inr ⟨rfl, H4.out, rfl⟩))⟩
end Go.Proofs.YtiacdohaiidehaaGreatDoor
