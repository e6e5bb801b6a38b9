/- Walks of package help: New, Next over any function that goes on. Walks of package help: Next over any function that goes on. -/
import Derived.Test.YtiacdohaiidehaaGreatDoorPk41
import Derived.Test.YtiacdohaiidehaaGreatDoorPk16
namespace Go.Proofs.YtiacdohaiidehaaGreatDoor
set_option linter.unusedSimpArgs false
set_option linter.unusedVariables false
open Go.RowKit
abbrev hpT : TypeId := 106
theorem codeT_hp : CodeT hpT 198 := ⟨by kernel_rfl, fun _ _ => by kernel_rfl, fun _ _ => by kernel_rfl⟩
theorem st_blk_al {P : Program} {w : World} {b b2 : Nat} {cs l l2 : List Value} {ops : Array Oper} {rest : List Oper} {op : Oper} {a : Act} {Q : Exit → Act → World → Prop} (hgd : op.guard = none) (ty : TypeId) (x y : Operand) (ho : op.op = .store ty x y)
 (hx : a.eval x = .pointer (some ⟨b, 0, none⟩)) (hy : a.eval y = .agg cs.toArray) (hb : Blk w b l) (e : l.length = cs.length)
 (hi : (P.info? ty).map (·.size) = some cs.length) (h1 : ∀ v ∈ cs, v.oneCell' = true) (W0 : World) (hW0 : Ext W0 w) (hWb : W0.heap.size ≤ b) (hb2 : Blk w b2 l2) (hne : b2 ≠ b)
 (h : ∀ W, Blk W b cs → Blk W b2 l2 → Ext W0 W → wpList P ops Q rest (a.put op.dst undef) W) : wpList P ops Q (op :: rest) a w :=
 st_blk hgd ty x y ho hx hy hb e hi h1 fun W hbW hg => h W hbW (hb2.grl hg (by simp; exact hne)) (hW0.grl hg (by simp; exact hWb))
theorem res_vcv {P : Program} {w : World} {fn : Func} {tmps : Array Value} {k1 k2 k3 : Nat} {t2 : TypeId} {b2 : Nat} {c2 : List Value} {v1 v3 : Value} {d2 : TypeDesc} (hr : fn.results = #[.tmp k1, .cell k2 t2, .tmp k3])
 (h1 : tmps[k1]?.getD undef = v1) (h2 : tmps[k2]?.getD undef = .pointer (some ⟨b2, 0, none⟩)) (h3 : tmps[k3]?.getD undef = v3)
 (B2 : Blk w b2 c2) (hu2 : P.underlying t2 = some d2) (hd2 : d2.isRow = true) (hi2 : (P.info? t2).map (·.size) = some c2.length) :
 (results fn tmps).run P w = .ok (.tuple #[v1, .agg c2.toArray, v3]) w := by
 have e2 := run_loadVar_mid w b2 0 t2 c2 d2 B2.range hu2 hd2 hi2
 subst h1 h3
 simp only [results, hr]
 simp [Sem.run_bind, Sem.run_pure, h2, asAddr, e2]
def HpPost (P : Nat → Prop) (R : World → (Nat → Prop) → Hr → A8 → Bool → Prop) (V : World) (e : Ending) (w' : World) : Prop :=
 ∃ h' a dn, h'.One ∧ e = .returned (.tuple #[.agg (hL h').toArray, .agg (a8E a).toArray, .bool dn]) ∧ Ext V w' ∧ R w' (fun b => P b ∨ V.heap.size ≤ b) h' a dn
def HnPost (P : Nat → Prop) (R : World → (Nat → Prop) → Hr → A8 → Bool → Prop) (V : World) (e : Ending) (w' : World) : Prop :=
 ∃ h' a dn, h'.One ∧ e = .returned (.tuple #[.iface hpT (.agg (hL h').toArray), .agg (a8E a).toArray, .bool dn]) ∧ Ext V w' ∧ R w' (fun b => P b ∨ V.heap.size ≤ b) h' a dn
structure RSt (R : World → (Nat → Prop) → Hr → A8 → Bool → Prop) : Prop where
 st : ∀ {w w' P h a dn}, R w P h a dn → AgP P w w' → R w' P h a dn
 imp : ∀ {w P P' h a dn}, R w P h a dn → (∀ b, P b → P' b) → R w P' h a dn
set_option maxRecDepth 100000 in
set_option maxHeartbeats 1000000 in
theorem hp_New (t c b ref : Int) (dur : Bool) (h0 : 0 ≤ ref) (h1 : ref ≤ 4294967295) (w : World) (hs : Szs w) : Calls Tryz.prog 8 #[.agg #[.int .i64 t, .int .i64 c, .int .i64 b], .int .u32 ref, .bool dur] w fun e w' => e = .returned (if checkN t c b ≠ 0 then .tuple #[.nilIface, .int .i64 1] else if (whoN ref).1 = 0 ∨ (placeN t c b (whoN ref).1).1 < 0 then .tuple #[.nilIface, .int .i64 3] else .tuple #[.iface hpT (.agg (hL (hR (⟨t, c, b, dur, .slice none 0 0, .slice none 0 0, .nilIface⟩ : HX) (hpNew t c b ref))).toArray), .int .i64 0]) ∧ Ext w w' := by
 have HS := hid hs
 clear hs
 have HRf := hid (And.intro h0 h1)
 clear h0 h1
 by_cases hc : checkN t c b = 0
 rotate_left 1
 ·have hcb : (checkN t c b != 0) = true := bne_iff_ne.2 hc
  rw [if_pos hc]
  have hcd : decide (checkN t c b = 0) = false := decide_eq_false hc
  clear hc
  go_enter Tryz.func8, Tryz.ntmps8
  go_upto_region 1 with fail
  generalize hV_ : World.alloc _ _ = V
  have HE_V := hid (show Ext w V by rw [← hV_]; exact exP)
  have HB_bx := hid (show Blk V (w.heap.size) [.int .i64 t, .int .i64 c, .int .i64 b] by rw [← hV_]; exact bkP)
  clear hV_
  obtain ⟨bx, hg_bx⟩ : ∃ g, g = w.heap.size := ⟨_, rfl⟩
  simp only [← hg_bx] at HB_bx ⊢
  have HN_V := hid (show bx = w.heap.size ∧ bx < V.heap.size from ⟨hg_bx, HB_bx.out.1⟩)
  clear hg_bx
  have h0 := (HB_bx.out).2.2 0 _ rfl
  have h1 := (HB_bx.out).2.2 1 _ rfl
  have h2 := (HB_bx.out).2.2 2 _ rfl
  have hf := (HB_bx.out).2.1
  have hg := (HB_bx.out).1
  go_wp2_with fail
  refine (check_any t c b V (HS.out.of HE_V.out)).mono ?_
  rintro e w1 ⟨rfl, hq_⟩
  have hx_ : Ext V w1 := hq_
  have HE1 := hid (HE_V.out.trans hx_)
  have HX1 := hid (HB_bx.out.of hx_)
  clear hx_ hq_ h0 h1 h2 hf hg
  go_wp2_with fail
  go_ret2
  exact ⟨rfl, HE1.out⟩
 ·obtain ⟨⟨q, sq⟩, hq⟩ : ∃ x, x = whoN ref := ⟨_, rfl⟩
  obtain ⟨⟨p1, p2⟩, hp⟩ : ∃ x, x = placeN t c b q := ⟨_, rfl⟩
  have HQ := hid hq
  have HP := hid hp
  have HQb := hid (show -9223372036854775808 ≤ q ∧ q ≤ 9223372036854775807 by
   have h : q = (whoN ref).1 := by rw [← hq]
   rw [h]; unfold whoN; split <;> simp <;> (have := HRf.out; omega))
  rw [if_neg (fun h => h hc)]
  have hcc := HQ.out
  rw [← hq]
  dsimp only
  rw [← hp]
  dsimp only
  clear hq hp hcc
  by_cases h1 : q = 0
  ·have hqb : (q == 0) = true := beq_iff_eq.2 h1
   have hqd : decide (q = 0) = true := decide_eq_true h1
   rw [if_pos (.inl h1)]
   clear h1
   go_enter Tryz.func8, Tryz.ntmps8
   go_upto_region 1 with fail
   generalize hV_ : World.alloc _ _ = V
   have HE_V := hid (show Ext w V by rw [← hV_]; exact exP)
   have HB_bx := hid (show Blk V (w.heap.size) [.int .i64 t, .int .i64 c, .int .i64 b] by rw [← hV_]; exact bkP)
   clear hV_
   obtain ⟨bx, hg_bx⟩ : ∃ g, g = w.heap.size := ⟨_, rfl⟩
   simp only [← hg_bx] at HB_bx ⊢
   have HN_V := hid (show bx = w.heap.size ∧ bx < V.heap.size from ⟨hg_bx, HB_bx.out.1⟩)
   clear hg_bx
   have h0 := (HB_bx.out).2.2 0 _ rfl
   have h1 := (HB_bx.out).2.2 1 _ rfl
   have h2 := (HB_bx.out).2.2 2 _ rfl
   have hf := (HB_bx.out).2.1
   have hg := (HB_bx.out).1
   go_wp2_with fail
   refine (check_any t c b V (HS.out.of HE_V.out)).mono ?_
   rintro e w1 ⟨rfl, hq_⟩
   have hx_ : Ext V w1 := hq_
   have HE1 := hid (HE_V.out.trans hx_)
   have HX1 := hid (HB_bx.out.of hx_)
   clear hx_ hq_ h0 h1 h2 hf hg
   rw [hc]
   clear hc
   have h0 := (HX1.out).2.2 0 _ rfl
   have h1 := (HX1.out).2.2 1 _ rfl
   have h2 := (HX1.out).2.2 2 _ rfl
   have hf := (HX1.out).2.1
   have hg := (HX1.out).1
   go_wp2_with fail
   refine (who_any ref HRf.out.1 HRf.out.2 w1).mono ?_
   rintro e w2 ⟨rfl, hq_⟩
   have hx_ : Ext w1 w2 := hq_
   rw [← HQ.out]
   have HE2 := hid (HE1.out.trans hx_)
   have HX2 := hid (HX1.out.of hx_)
   clear hx_ hq_ h0 h1 h2 hf hg
   have h0 := (HX2.out).2.2 0 _ rfl
   have h1 := (HX2.out).2.2 1 _ rfl
   have h2 := (HX2.out).2.2 2 _ rfl
   have hf := (HX2.out).2.1
   have hg := (HX2.out).1
   go_wp2_with fail
   refine (place_any t c b q HQb.out.1 HQb.out.2 w2 (HS.out.of HE2.out)).mono ?_
   rintro e w3 ⟨rfl, hq_⟩
   have hx_ : Ext w2 w3 := hq_
   rw [← HP.out]
   have HE3 := hid (HE2.out.trans hx_)
   have HX3 := hid (HX2.out.of hx_)
   clear hx_ hq_ h0 h1 h2 hf hg
   go_wp2_with fail
   go_ret2
   exact ⟨rfl, HE3.out⟩
  ·have hqb : (q == 0) = false := beq_eq_false_iff_ne.2 h1
   have hqd : decide (q = 0) = false := decide_eq_false h1
   by_cases h2 : p1 < 0
   ·have hpd : decide (p1 < 0) = true := decide_eq_true h2
    rw [if_pos (.inr h2)]
    clear h1 h2
    go_enter Tryz.func8, Tryz.ntmps8
    go_upto_region 1 with fail
    generalize hV_ : World.alloc _ _ = V
    have HE_V := hid (show Ext w V by rw [← hV_]; exact exP)
    have HB_bx := hid (show Blk V (w.heap.size) [.int .i64 t, .int .i64 c, .int .i64 b] by rw [← hV_]; exact bkP)
    clear hV_
    obtain ⟨bx, hg_bx⟩ : ∃ g, g = w.heap.size := ⟨_, rfl⟩
    simp only [← hg_bx] at HB_bx ⊢
    have HN_V := hid (show bx = w.heap.size ∧ bx < V.heap.size from ⟨hg_bx, HB_bx.out.1⟩)
    clear hg_bx
    have h0 := (HB_bx.out).2.2 0 _ rfl
    have h1 := (HB_bx.out).2.2 1 _ rfl
    have h2 := (HB_bx.out).2.2 2 _ rfl
    have hf := (HB_bx.out).2.1
    have hg := (HB_bx.out).1
    go_wp2_with fail
    refine (check_any t c b V (HS.out.of HE_V.out)).mono ?_
    rintro e w1 ⟨rfl, hq_⟩
    have hx_ : Ext V w1 := hq_
    have HE1 := hid (HE_V.out.trans hx_)
    have HX1 := hid (HB_bx.out.of hx_)
    clear hx_ hq_ h0 h1 h2 hf hg
    rw [hc]
    clear hc
    have h0 := (HX1.out).2.2 0 _ rfl
    have h1 := (HX1.out).2.2 1 _ rfl
    have h2 := (HX1.out).2.2 2 _ rfl
    have hf := (HX1.out).2.1
    have hg := (HX1.out).1
    go_wp2_with fail
    refine (who_any ref HRf.out.1 HRf.out.2 w1).mono ?_
    rintro e w2 ⟨rfl, hq_⟩
    have hx_ : Ext w1 w2 := hq_
    rw [← HQ.out]
    have HE2 := hid (HE1.out.trans hx_)
    have HX2 := hid (HX1.out.of hx_)
    clear hx_ hq_ h0 h1 h2 hf hg
    have h0 := (HX2.out).2.2 0 _ rfl
    have h1 := (HX2.out).2.2 1 _ rfl
    have h2 := (HX2.out).2.2 2 _ rfl
    have hf := (HX2.out).2.1
    have hg := (HX2.out).1
    go_wp2_with fail
    refine (place_any t c b q HQb.out.1 HQb.out.2 w2 (HS.out.of HE2.out)).mono ?_
    rintro e w3 ⟨rfl, hq_⟩
    have hx_ : Ext w2 w3 := hq_
    rw [← HP.out]
    have HE3 := hid (HE2.out.trans hx_)
    have HX3 := hid (HX2.out.of hx_)
    clear hx_ hq_ h0 h1 h2 hf hg
    go_wp2_with fail
    go_ret2
    exact ⟨rfl, HE3.out⟩
   ·have hpd : decide (p1 < 0) = false := decide_eq_false h2
    have hpn : ¬ p1 < 0 := h2
    have hpm : 0 ≤ p1 := by omega
    rw [if_neg (by intro h; rcases h with h | h; exact h1 h; exact h2 h)]
    clear h1 h2
    go_enter Tryz.func8, Tryz.ntmps8
    go_upto_region 1 with fail
    generalize hV_ : World.alloc _ _ = V
    have HE_V := hid (show Ext w V by rw [← hV_]; exact exP)
    have HB_bx := hid (show Blk V (w.heap.size) [.int .i64 t, .int .i64 c, .int .i64 b] by rw [← hV_]; exact bkP)
    clear hV_
    obtain ⟨bx, hg_bx⟩ : ∃ g, g = w.heap.size := ⟨_, rfl⟩
    simp only [← hg_bx] at HB_bx ⊢
    have HN_V := hid (show bx = w.heap.size ∧ bx < V.heap.size from ⟨hg_bx, HB_bx.out.1⟩)
    clear hg_bx
    have h0 := (HB_bx.out).2.2 0 _ rfl
    have h1 := (HB_bx.out).2.2 1 _ rfl
    have h2 := (HB_bx.out).2.2 2 _ rfl
    have hf := (HB_bx.out).2.1
    have hg := (HB_bx.out).1
    go_wp2_with fail
    refine (check_any t c b V (HS.out.of HE_V.out)).mono ?_
    rintro e w1 ⟨rfl, hq_⟩
    have hx_ : Ext V w1 := hq_
    have HE1 := hid (HE_V.out.trans hx_)
    have HX1 := hid (HB_bx.out.of hx_)
    clear hx_ hq_ h0 h1 h2 hf hg
    rw [hc]
    clear hc
    have h0 := (HX1.out).2.2 0 _ rfl
    have h1 := (HX1.out).2.2 1 _ rfl
    have h2 := (HX1.out).2.2 2 _ rfl
    have hf := (HX1.out).2.1
    have hg := (HX1.out).1
    go_wp2_with fail
    refine (who_any ref HRf.out.1 HRf.out.2 w1).mono ?_
    rintro e w2 ⟨rfl, hq_⟩
    have hx_ : Ext w1 w2 := hq_
    rw [← HQ.out]
    have HE2 := hid (HE1.out.trans hx_)
    have HX2 := hid (HX1.out.of hx_)
    clear hx_ hq_ h0 h1 h2 hf hg
    have h0 := (HX2.out).2.2 0 _ rfl
    have h1 := (HX2.out).2.2 1 _ rfl
    have h2 := (HX2.out).2.2 2 _ rfl
    have hf := (HX2.out).2.1
    have hg := (HX2.out).1
    go_wp2_with fail
    refine (place_any t c b q HQb.out.1 HQb.out.2 w2 (HS.out.of HE2.out)).mono ?_
    rintro e w3 ⟨rfl, hq_⟩
    have hx_ : Ext w2 w3 := hq_
    rw [← HP.out]
    have HE3 := hid (HE2.out.trans hx_)
    have HX3 := hid (HX2.out.of hx_)
    clear hx_ hq_ h0 h1 h2 hf hg
    have h0 := (HX3.out).2.2 0 _ rfl
    have h1 := (HX3.out).2.2 1 _ rfl
    have h2 := (HX3.out).2.2 2 _ rfl
    have hf := (HX3.out).2.1
    have hg := (HX3.out).1
    go_wp2_with fail
    go_ret2
    refine ⟨?_, HE3.out⟩
    have e1 : hpNew t c b ref = ⟨ref, p1, q, sq, p2, [], 0, [], 0, 0, (0, 0, 0), false, 0, 0⟩ := by
     unfold hpNew; rw [← HQ.out]; dsimp only; rw [← HP.out]
    rw [e1]
    rfl
open Go.RowKit
set_option maxRecDepth 100000 in
set_option maxHeartbeats 1000000 in
theorem hpn_over {X : HX} (ho : X.One) (d : Hd) (hd : d.ended = true) (g : Gt) (w : World) : Calls Tryz.prog 198 #[.agg (hL (hR X d)).toArray, .agg (gtE g).toArray] w fun e w' => e = .returned (.tuple #[.iface hpT (.agg (hL (hR X d)).toArray), .agg (a8E a8Z).toArray, .bool true]) ∧ Ext w w' := by
 have HO := hid ho
 clear ho
 go_enter Tryz.func198, Tryz.ntmps198
 go_upto_region 1 with fail
 generalize hV_ : World.alloc _ _ = V
 have HE_V := hid (show Ext w V by rw [← hV_]; exact exP)
 have HB_bx := hid (show Blk V (w.heap.size) (hL (hR X d)) by rw [← hV_]; exact bkP)
 have HB_bg := hid (show Blk V (w.heap.size + 1) (gtE g) by rw [← hV_]; exact bkP)
 have HB_ba := hid (show Blk V (w.heap.size + 1 + 1) [.int .i64 0, .int .i64 0, .int .i64 0, .int .u32 0, .int .u32 0, .int .i64 0, .int .u32 0, .int .u32 0] by rw [← hV_]; exact bkP)
 clear hV_
 obtain ⟨ba, hg_ba⟩ : ∃ g, g = w.heap.size + 1 + 1 := ⟨_, rfl⟩
 simp only [← hg_ba] at HB_ba ⊢
 obtain ⟨bg, hg_bg⟩ : ∃ g, g = w.heap.size + 1 := ⟨_, rfl⟩
 simp only [← hg_bg] at HB_bg ⊢
 obtain ⟨bx, hg_bx⟩ : ∃ g, g = w.heap.size := ⟨_, rfl⟩
 simp only [← hg_bx] at HB_bx ⊢
 have HN_V := hid (show bx = w.heap.size ∧ bg = w.heap.size + 1 ∧ ba = w.heap.size + 1 + 1 ∧ ba < V.heap.size from ⟨hg_bx, hg_bg, hg_ba, HB_ba.out.1⟩)
 clear hg_bx hg_bg hg_ba
 have x_end : V.cell? ⟨bx, 18, none⟩ = some (.bool true) := by rw [← hd]; exact HB_bx.out.2.2 18 _ rfl
 have x_g := HB_bx.out.1
 clear hd
 go_wp2_with (first | (refine ld_blk rfl 106 _ rfl rfl _ HB_bx.out Tryz.underlying106 rfl Tryz.hInfo ?_) | (refine st_blk rfl 46 _ _ rfl rfl (cs := a8E a8Z) rfl HB_ba.out rfl Tryz.aInfo (a8E_one' _) ?_; intro W1 hb1 hg1))
 exact bodyPost_ret (res_vcv Tryz.results198 rfl rfl rfl hb1 Tryz.underlying46 rfl Tryz.aInfo) rfl ⟨rfl, HE_V.out.grl hg1 (by have h1 := HN_V.out; simp; omega)⟩
set_option maxRecDepth 100000 in
set_option maxHeartbeats 1000000 in
theorem hpn_go {X : HX} (ho : X.One) (d : Hd) (hd : d.ended = false) (g : Gt) {F : FuncId} (hF : phV d.nx = .func (.func F) #[] #[]) (hen : ∀ args w, (callFunc F args).run Tryz.prog w = .ok (.enter F args) w) (w : World) (P : Nat → Prop) (hP : ∀ b, P b → b < w.heap.size) {R : World → (Nat → Prop) → Hr → A8 → Bool → Prop} (hR_ : RSt R)
 (hcall : ∀ V, Ext w V → Calls Tryz.prog F #[.agg (hL (hR X d)).toArray, .agg (gtE g).toArray] V (HpPost P R V)) : Calls Tryz.prog 198 #[.agg (hL (hR X d)).toArray, .agg (gtE g).toArray] w (HnPost P R w) := by
 have HO := hid ho
 have HC := hid hcall
 have HRs := hid hR_
 have HPb := hid hP
 clear ho hcall hR_ hP
 go_enter Tryz.func198, Tryz.ntmps198
 go_upto_region 1 with fail
 generalize hV_ : World.alloc _ _ = V
 have HE_V := hid (show Ext w V by rw [← hV_]; exact exP)
 have HB_bx := hid (show Blk V (w.heap.size) (hL (hR X d)) by rw [← hV_]; exact bkP)
 have HB_bg := hid (show Blk V (w.heap.size + 1) (gtE g) by rw [← hV_]; exact bkP)
 have HB_ba := hid (show Blk V (w.heap.size + 1 + 1) [.int .i64 0, .int .i64 0, .int .i64 0, .int .u32 0, .int .u32 0, .int .i64 0, .int .u32 0, .int .u32 0] by rw [← hV_]; exact bkP)
 clear hV_
 obtain ⟨ba, hg_ba⟩ : ∃ g, g = w.heap.size + 1 + 1 := ⟨_, rfl⟩
 simp only [← hg_ba] at HB_ba ⊢
 obtain ⟨bg, hg_bg⟩ : ∃ g, g = w.heap.size + 1 := ⟨_, rfl⟩
 simp only [← hg_bg] at HB_bg ⊢
 obtain ⟨bx, hg_bx⟩ : ∃ g, g = w.heap.size := ⟨_, rfl⟩
 simp only [← hg_bx] at HB_bx ⊢
 have HN_V := hid (show bx = w.heap.size ∧ bg = w.heap.size + 1 ∧ ba = w.heap.size + 1 + 1 ∧ ba < V.heap.size from ⟨hg_bx, hg_bg, hg_ba, HB_ba.out.1⟩)
 clear hg_bx hg_bg hg_ba
 have x_end : V.cell? ⟨bx, 18, none⟩ = some (.bool false) := by rw [← hd]; exact HB_bx.out.2.2 18 _ rfl
 have x_nx : V.cell? ⟨bx, 19, none⟩ = some (.func (.func F) #[] #[]) := by rw [← hF]; exact HB_bx.out.2.2 19 _ rfl
 have x_g := HB_bx.out.1
 clear hd hF
 go_wp2_with (first | (refine ld_blk rfl 106 _ rfl rfl _ HB_bx.out Tryz.underlying106 rfl Tryz.hInfo ?_) | (refine ld_blk rfl 50 _ rfl rfl _ HB_bg.out Tryz.underlying50 rfl Tryz.gInfo ?_))
 clear x_end x_nx x_g
 refine (HC.out V HE_V.out).mono ?_
 rintro e w1 ⟨h', a, dn, hone, rfl, hx_, hr_⟩
 have HOn := hid hone
 have HRr := hid hr_
 have HE1 := hid hx_
 have HB_ba1 := hid (HB_ba.out.of hx_)
 clear hone hr_ hx_ hen
 go_upto_region 4 with (first | (refine st_blk_al (b2 := w1.heap.size + 1) (l2 := [.int .i64 0, .int .i64 0, .int .i64 0, .int .u32 0, .int .u32 0, .int .i64 0, .int .u32 0, .int .u32 0]) rfl 106 _ _ rfl rfl rfl (show Blk _ w1.heap.size zH from by exact bkP) rfl Tryz.hInfo HOn.out.all w1 (by exact exP) (Nat.le_refl _) (by exact bkP) (by omega) ?_; intro W1 hb1 hc1 hE1) | (refine st_blk_al rfl 46 _ _ rfl rfl rfl hc1 rfl Tryz.aInfo (a8E_one' _) w1 hE1 (Nat.le_succ _) hb1 (by omega) ?_; intro W2 hb2 hc2 hE2))
 have HBo := hid hc2
 have HBq := hid hb2
 have HE2 := hid hE2
 clear hb1 hc1 hE1 hb2 hc2 hE2
 refine wp_region_held_drew (S := fun w' => Blk w' w1.heap.size (hL h') ∧ Blk w' (w1.heap.size + 1) (a8E a)) (by kernel_rfl) ⟨HBo.out, HBq.out⟩ (fun hHeld => ?_)
 refine take_met 0 (oi := ⟨_, _, _, _, _, _⟩) (v := .agg (hL h').toArray) (by kernel_rfl) rfl (by rfl) (fun _ _ _ h => h) hHeld (fun w hS => ld_run _ _ rfl rfl _ hS.1 Tryz.underlying106 rfl Tryz.hInfo) ?_
 (try simp only [Act.put, pA, pB, pC])
 refine take_met 1 (oi := ⟨_, _, _, _, _, _⟩) (v := .iface hpT (.agg (hL h').toArray)) (by kernel_rfl) rfl (by rfl) (fun _ _ _ h => h) hHeld (fun w hS => by simp [go_sem]) ?_
 (try simp only [Act.put, pA, pB, pC])
 refine take_met 2 (oi := ⟨_, _, _, _, _, _⟩) (v := .agg (a8E a).toArray) (by kernel_rfl) rfl (by rfl) (fun _ _ _ h => h) hHeld (fun w hS => ld_run _ _ rfl rfl _ hS.2 Tryz.underlying46 rfl Tryz.aInfo) ?_
 (try simp only [Act.put, pA, pB, pC])
 refine take_met 3 (oi := ⟨_, _, _, _, _, _⟩) (v := .bool dn) (by kernel_rfl) rfl (by rfl) (fun _ _ _ h => h) hHeld (fun w hS => by simp [go_sem]) ?_
 (try simp only [Act.put, pA, pB, pC])
 refine take_met 4 (oi := ⟨_, _, _, _, _, _⟩) (v := .iface hpT (.agg (hL h').toArray)) (by kernel_rfl) rfl (by rfl) (fun _ _ _ h => h) hHeld (fun w hS => by simp [go_sem]) ?_
 (try simp only [Act.put, pA, pB, pC])
 refine take_only 5 (oi := ⟨_, _, _, _, _, _⟩) (by kernel_rfl) rfl (fun K hK => ?_)
 rw [if_pos (by rfl)]
 refine st_op _ _ _ rfl rfl rfl (Blk.drew (HB_ba1.out.of HE2.out)) rfl Tryz.aInfo (a8E_one' _) (fun W3 hb3 hg3 => ?_)
 have hd1 : w1.heap.size ≠ ba := by have h1 := HB_ba1.out.1; omega
 have hd2 : w1.heap.size + 1 ≠ ba := by have h1 := HB_ba1.out.1; omega
 refine hK.out _ _ ⟨hHeld.1.grl hg3 (by simp; exact hd1), hHeld.2.grl hg3 (by simp; exact hd2)⟩ (fun hHeld1 => ?_)
 clear hK K
 (try simp only [Act.put, pA, pB, pC])
 refine take_met 6 (oi := ⟨_, _, _, _, _, _⟩) (v := .bool dn) (by kernel_rfl) rfl (by rfl) (fun _ _ _ h => h) hHeld1 (fun w hS => by simp [go_sem]) ?_
 (try simp only [Act.put, pA, pB, pC])
 refine wpAnyH_done (by kernel_rfl) ?_ _
 (repeat (first | go_values | go_skip | go_guarded | go_step | go_upon | (simp only [Int.not_lt, Int.not_le] at *; go_simp) | (go_ite <;> go_prune <;> (try go_simp))))
 have hG3 : GrL [ba] w1 W3 := (GrL.of_ext HE2.out).trans (GrL.drew GrL.refl |>.trans hg3)
 have hE3 : Ext w W3 := ((HE_V.out.trans HE1.out).trans HE2.out).grl (GrL.drew GrL.refl |>.trans hg3) (by have h1 := HN_V.out; simp; omega)
 exact bodyPost_ret (res_vcv Tryz.results198 rfl rfl rfl hb3 Tryz.underlying46 rfl Tryz.aInfo) rfl ⟨h', a, dn, HOn.out, rfl, hE3, HRs.out.imp (HRs.out.st HRr.out (hG3.kp (by
  intro q hq hb
  simp only [List.mem_singleton] at hq
  subst hq
  have h1 := HN_V.out
  rcases hb with hb | hb
  ·have h2 := HPb.out _ hb; omega
  ·omega)).agp) (fun q hq => by
  rcases hq with hq | hq
  ·exact .inl hq
  ·exact .inr (Nat.le_trans HE_V.out.size hq))⟩
end Go.Proofs.YtiacdohaiidehaaGreatDoor
