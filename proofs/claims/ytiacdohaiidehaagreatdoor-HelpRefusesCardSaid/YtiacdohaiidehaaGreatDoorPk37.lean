/- Walks of package help: installed, counted, load. -/
import Derived.Test.YtiacdohaiidehaaGreatDoorPk36
namespace Go.Proofs.YtiacdohaiidehaaGreatDoor
set_option linter.unusedSimpArgs false
set_option linter.unusedVariables false
open Go.RowKit
theorem hp_held' {X : HX} (d : Hd) (w : World) (he : Sl w 6 enE X.es d.es) (hi : d.i < d.es.length) : Calls Tryz.prog 151 #[.agg (hL (hR X d)).toArray] w fun e w' => e = .returned (.agg #[.int .i64 d.cur.val, .int .u32 d.cur.ver, .int .u32 d.ref]) ∧ Ext w w' := hp_held d w he hi
theorem tm_bool {x : Option Value} {b : Bool} (h : x.getD undef = .bool b) : x = some (.bool b) := by
 cases x with
 | none => cases h
 | some v => exact congrArg some h
theorem ld_pre_op {P : Program} {w : World} {b : Nat} {cs l : List Value} {op : Oper} {a : Act} {K : Act → World → Prop} {Q : Exit → Act → World → Prop} (ty : TypeId) (x : Operand) (ho : op.op = .load ty x)
 (hx : a.eval x = .pointer (some ⟨b, 0, none⟩)) (d : TypeDesc) (hc : Blk w b l) (hp : ∀ (j : Nat) (v : Value), cs[j]? = some v → l[j]? = some v)
 (hu : P.underlying ty = some d) (hd : d.isRow = true) (hi : (P.info? ty).map (·.size) = some cs.length)
 (h : K (a.put op.dst (.agg cs.toArray)) w) : op.wp P a w K Q :=
 wp_load_mid ty x ho b 0 hx cs d (fun j v hv => by rw [Nat.zero_add]; exact hc.2.2 j v (hp j v hv)) hu hd hi h
theorem pre_wd {g1 g2 g3 : Int} {gk : Bool} (j : Nat) (v : Value) (h : (wdE (g1, g2, g3))[j]? = some v) : (gtE ((g1, g2, g3), gk))[j]? = some v := by
 match j with
 | 0 => exact h
 | 1 => exact h
 | 2 => exact h
 | j + 3 => simp [wdE] at h
set_option maxRecDepth 100000 in
set_option maxHeartbeats 1000000 in
theorem hp_installed {X : HX} (ho : X.One) (d : Hd) (hd : HdN d) (hl : d.i < d.es.length) (hn : X.inn = .nilIface) (g : Gt) (hg : WdOk g.1) (w : World) (he : Sl w 6 enE X.es d.es) (hs : Szs w) :
 Calls Tryz.prog 152 #[.agg (hL (hR X d)).toArray, .agg (gtE g).toArray] w fun e w' => e = .returned (.tuple #[.agg (hL (hR X (hpInstalled X.t X.c X.b X.dur d g).1)).toArray, .agg (a8E (hpInstalled X.t X.c X.b X.dur d g).2.1).toArray, .bool (hpInstalled X.t X.c X.b X.dur d g).2.2]) ∧ Ext w w' := by
 have HO := hid ho
 clear ho
 have HEs := hid he
 have HNi := hid hn
 have HDn := hid hd
 have HL := hid hl
 have HS := hid hs
 have HG3 := hid hg.2.2
 obtain ⟨iq, hiq, hwi⟩ := iq_of hd
 have HDq := hid (show HdN { d with i := iq } from ⟨hd.seq, hd.ref, hd.at_, hd.who, hd.most, by show iq ≤ d.es.length; omega, hd.es, hd.ws, hd.many⟩)
 have HIq := hid hiq
 clear hg he hn hd hl hs hiq
 obtain ⟨⟨g1, g2, g3⟩, gk⟩ := g
 dsimp only at HG3
 cases gk
 rotate_left 1
 ·have HR := hid (show hpInstalled X.t X.c X.b X.dur d ((g1, g2, g3), true) = hpInstall X.dur { d with i := iq } by rw [HIq.out]; exact if_pos (.inl rfl))
  rw [HR.out]
  go_enter Tryz.func152, Tryz.ntmps152
  go_upto_region 1 with fail
  generalize hV_ : World.alloc _ _ = V
  have HE_V := hid (show Ext w V by rw [← hV_]; exact exP)
  have HB_bx := hid (show Blk V (w.heap.size) (hL (hR X d)) by rw [← hV_]; exact bkP)
  have HB_bg := hid (show Blk V (w.heap.size + 1) (gtE ((g1, g2, g3), true)) by rw [← hV_]; exact bkP)
  have HB_br := hid (show Blk V (w.heap.size + 1 + 1) zH by rw [← hV_]; exact bkP)
  have HB_ba := hid (show Blk V (w.heap.size + 1 + 1 + 1) [.int .i64 0, .int .i64 0, .int .i64 0, .int .u32 0, .int .u32 0, .int .i64 0, .int .u32 0, .int .u32 0] by rw [← hV_]; exact bkP)
  clear hV_
  obtain ⟨ba, hg_ba⟩ : ∃ g, g = w.heap.size + 1 + 1 + 1 := ⟨_, rfl⟩
  simp only [← hg_ba] at HB_ba ⊢
  obtain ⟨br, hg_br⟩ : ∃ g, g = w.heap.size + 1 + 1 := ⟨_, rfl⟩
  simp only [← hg_br] at HB_br ⊢
  obtain ⟨bg, hg_bg⟩ : ∃ g, g = w.heap.size + 1 := ⟨_, rfl⟩
  simp only [← hg_bg] at HB_bg ⊢
  obtain ⟨bx, hg_bx⟩ : ∃ g, g = w.heap.size := ⟨_, rfl⟩
  simp only [← hg_bx] at HB_bx ⊢
  have HN_V := hid (show bx = w.heap.size ∧ bg = w.heap.size + 1 ∧ br = w.heap.size + 1 + 1 ∧ ba = w.heap.size + 1 + 1 + 1 ∧ ba < V.heap.size from ⟨hg_bx, hg_bg, hg_br, hg_ba, HB_ba.out.1⟩)
  clear hg_bx hg_bg hg_br hg_ba
  have w0 : V.cell? ⟨bg, 0, none⟩ = some (.int .i64 g1) := HB_bg.out.2.2 0 _ rfl
  have w1 : V.cell? ⟨bg, 1, none⟩ = some (.int .u32 g2) := HB_bg.out.2.2 1 _ rfl
  have w2 : V.cell? ⟨bg, 2, none⟩ = some (.int .u32 g3) := HB_bg.out.2.2 2 _ rfl
  have w3 : V.cell? ⟨bg, 3, none⟩ = some (.bool true) := HB_bg.out.2.2 3 _ rfl
  have wg := HB_bg.out.1
  refine wp_region_held_drew (S := fun w' => w'.cell? ⟨bg, 3, none⟩ = some (.bool true) ∧ bg < w'.heap.size) (by kernel_rfl) (by exact ⟨w3, wg⟩) (fun hHeld => ?_)
  refine tkm 0 (v := ?_) rfl ?_ ?_
  rotate_left 1
  ·intro w hSw
   try dsimp only at hSw
   go_simp
   try with_reducible rfl
  (try simp only [Act.put, pA, pB, pC])
  refine tkm 1 (v := ?_) rfl ?_ ?_
  rotate_left 1
  ·intro w hSw
   try dsimp only at hSw
   go_simp
   try with_reducible rfl
  (try simp only [Act.put, pA, pB, pC])
  refine tkm 2 (v := ?_) rfl ?_ ?_
  rotate_left 1
  ·intro w hSw
   try dsimp only at hSw
   go_simp
   try with_reducible rfl
  (try simp only [Act.put, pA, pB, pC])
  refine take_unmet 3 (oi := ⟨_, _, _, _, _, _⟩) (by kernel_rfl) rfl (by rfl) (fun _ _ _ h => h) (by assumption) ?_
  (try simp only [Act.put, pA, pB, pC])
  refine take_unmet 4 (oi := ⟨_, _, _, _, _, _⟩) (by kernel_rfl) rfl (by rfl) (fun _ _ _ h => h) (by assumption) ?_
  (try simp only [Act.put, pA, pB, pC])
  refine take_unmet 5 (oi := ⟨_, _, _, _, _, _⟩) (by kernel_rfl) rfl (by rfl) (fun _ _ _ h => h) (by assumption) ?_
  (try simp only [Act.put, pA, pB, pC])
  refine take_unmet 6 (oi := ⟨_, _, _, _, _, _⟩) (by kernel_rfl) rfl (by rfl) (fun _ _ _ h => h) (by assumption) ?_
  (try simp only [Act.put, pA, pB, pC])
  refine take_unmet 7 (oi := ⟨_, _, _, _, _, _⟩) (by kernel_rfl) rfl (by rfl) (fun _ _ _ h => h) (by assumption) ?_
  (try simp only [Act.put, pA, pB, pC])
  refine tkm 8 (v := ?_) rfl ?_ ?_
  rotate_left 1
  ·intro w hSw
   try dsimp only at hSw
   go_simp
   try with_reducible rfl
  (try simp only [Act.put, pA, pB, pC])
  refine tkm 9 (v := ?_) rfl ?_ ?_
  rotate_left 1
  ·intro w hSw
   try dsimp only at hSw
   go_simp
   try with_reducible rfl
  (try simp only [Act.put, pA, pB, pC])
  refine wpAnyH_done (by kernel_rfl) ?_ _
  clear w0 w1 w2 w3 wg
  clear hHeld
  have hxd : Ext V V.drew := (Ext.refl _).drew
  obtain ⟨U, hU⟩ : ∃ U, U = V.drew := ⟨_, rfl⟩
  rw [← hU] at hxd
  simp only [← hU]
  clear hU
  have HE_U := hid (HE_V.out.trans hxd)
  have HB_bx2 := hid (HB_bx.out.of hxd)
  have HB_bg2 := hid (HB_bg.out.of hxd)
  have HB_br2 := hid (HB_br.out.of hxd)
  have HB_ba2 := hid (HB_ba.out.of hxd)
  clear HB_bx HB_bg HB_br HB_ba
  have HB_bx := HB_bx2
  have HB_bg := HB_bg2
  have HB_br := HB_br2
  have HB_ba := HB_ba2
  clear HB_bx2 HB_bg2 HB_br2 HB_ba2
  clear hxd
  have x_i : U.cell? ⟨bx, 12, none⟩ = some (.int .i64 (d.i : Int)) := HB_bx.out.2.2 12 _ rfl
  have x_g := HB_bx.out.1
  have x_f := HB_bx.out.2.1
  go_upto_region 3 with fail
  generalize hZ_ : World.setCell _ _ _ = Q
  have HG_Q := hid (show GrL [bx] U Q by rw [← hZ_]; exact glP)
  have HB_bx2 := hid (show Blk Q bx (hL (hR X { d with i := iq })) by rw [← hZ_]; exact HB_bx.out.set 12 (of_decide_eq_true rfl) _)
  clear hZ_ HB_bx x_i x_g x_f
  have HB_bx := HB_bx2
  clear HB_bx2
  have HE_Q := hid (HE_U.out.grl HG_Q.out (by have h1 := HN_V.out; simp; omega))
  have HB_br2 := hid (HB_br.out.grl HG_Q.out (by have h1 := HN_V.out; simp; omega))
  clear HB_br
  have HB_br := HB_br2
  clear HB_br2
  have HB_ba2 := hid (HB_ba.out.grl HG_Q.out (by have h1 := HN_V.out; simp; omega))
  clear HB_ba
  have HB_ba := HB_ba2
  clear HB_ba2
  have HB_bg2 := hid (HB_bg.out.grl HG_Q.out (by have h1 := HN_V.out; simp; omega))
  clear HB_bg
  have HB_bg := HB_bg2
  clear HB_bg2
  have HEU := hid (show Sl Q 6 enE X.es d.es from HEs.out.of enE_len HE_Q.out)
  go_wp2_with (first | (refine ld_blk rfl 106 _ rfl rfl _ HB_bx.out Tryz.underlying106 rfl Tryz.hInfo ?_))
  refine (hp_install HO.out { d with i := iq } HDq.out Q HEU.out).mono ?_
  rintro e w1 ⟨rfl, he⟩
  have HE1 := hid (HE_Q.out.trans he)
  have HBr := hid (HB_br.out.of he)
  have HBa := hid (HB_ba.out.of he)
  clear he
  go_wp2_with (first | (refine st_blk rfl 106 _ _ rfl rfl rfl HBr.out rfl Tryz.hInfo (Hr.One.all (hR_one HO.out _)) ?_; intro W1 hb1 hg1) | (refine st_blk rfl 46 _ _ rfl rfl rfl (HBa.out.grl hg1 (by have h1 := HN_V.out; simp; omega)) rfl Tryz.aInfo (a8E_one' _) ?_; intro W2 hb2 hg2))
  exact bodyPost_ret (res3 Tryz.results152 rfl rfl rfl (hb1.grl hg2 (by have h1 := HN_V.out; simp; omega)) hb2 Tryz.underlying106 rfl Tryz.hInfo Tryz.underlying46 rfl Tryz.aInfo) rfl ⟨rfl, (HE1.out.grl hg1 (by have h1 := HN_V.out; simp; omega)).grl hg2 (by have h1 := HN_V.out; simp; omega)⟩
 ·by_cases h1 : (g1, g2, g3) = hpHeld d
  ·have HR := hid (show hpInstalled X.t X.c X.b X.dur d ((g1, g2, g3), false) = hpInstall X.dur { d with i := iq } by rw [HIq.out]; exact if_pos (.inr h1))
   rw [HR.out]
   have hq1 : wdB (g1, g2, g3) (d.cur.val, d.cur.ver, d.ref) = true := decide_eq_true h1
   clear h1
   have heq := eq_word g1 g2 g3 d.cur.val d.cur.ver d.ref
   have hga := eq_guard_word
   go_enter Tryz.func152, Tryz.ntmps152
   go_upto_region 1 with fail
   generalize hV_ : World.alloc _ _ = V
   have HE_V := hid (show Ext w V by rw [← hV_]; exact exP)
   have HB_bx := hid (show Blk V (w.heap.size) (hL (hR X d)) by rw [← hV_]; exact bkP)
   have HB_bg := hid (show Blk V (w.heap.size + 1) (gtE ((g1, g2, g3), false)) by rw [← hV_]; exact bkP)
   have HB_br := hid (show Blk V (w.heap.size + 1 + 1) zH by rw [← hV_]; exact bkP)
   have HB_ba := hid (show Blk V (w.heap.size + 1 + 1 + 1) [.int .i64 0, .int .i64 0, .int .i64 0, .int .u32 0, .int .u32 0, .int .i64 0, .int .u32 0, .int .u32 0] by rw [← hV_]; exact bkP)
   clear hV_
   obtain ⟨ba, hg_ba⟩ : ∃ g, g = w.heap.size + 1 + 1 + 1 := ⟨_, rfl⟩
   simp only [← hg_ba] at HB_ba ⊢
   obtain ⟨br, hg_br⟩ : ∃ g, g = w.heap.size + 1 + 1 := ⟨_, rfl⟩
   simp only [← hg_br] at HB_br ⊢
   obtain ⟨bg, hg_bg⟩ : ∃ g, g = w.heap.size + 1 := ⟨_, rfl⟩
   simp only [← hg_bg] at HB_bg ⊢
   obtain ⟨bx, hg_bx⟩ : ∃ g, g = w.heap.size := ⟨_, rfl⟩
   simp only [← hg_bx] at HB_bx ⊢
   have HN_V := hid (show bx = w.heap.size ∧ bg = w.heap.size + 1 ∧ br = w.heap.size + 1 + 1 ∧ ba = w.heap.size + 1 + 1 + 1 ∧ ba < V.heap.size from ⟨hg_bx, hg_bg, hg_br, hg_ba, HB_ba.out.1⟩)
   clear hg_bx hg_bg hg_br hg_ba
   have HEU := hid (show Sl V 6 enE X.es d.es from HEs.out.of enE_len HE_V.out)
   have w0 : V.cell? ⟨bg, 0, none⟩ = some (.int .i64 g1) := HB_bg.out.2.2 0 _ rfl
   have w1 : V.cell? ⟨bg, 1, none⟩ = some (.int .u32 g2) := HB_bg.out.2.2 1 _ rfl
   have w2 : V.cell? ⟨bg, 2, none⟩ = some (.int .u32 g3) := HB_bg.out.2.2 2 _ rfl
   have w3 : V.cell? ⟨bg, 3, none⟩ = some (.bool false) := HB_bg.out.2.2 3 _ rfl
   have wg := HB_bg.out.1
   have HL_ := hid (fun w' (h : Ext V w') => (And.intro (Nat.lt_of_lt_of_le wg h.size) (And.intro (h.cell w0) (And.intro (h.cell w1) (And.intro (h.cell w2) (h.cell w3))))))
   refine wp_region_facts [8, 9, 10, 11, 12, 13, 14, 15, 16, 7] [0, 1, 2, 3, 4, 5, 6, 7, 8, 9] rfl (fun w' => Ext V w') (fsAt [IsV ?_, IsV ?_, IsV ?_, IsV ?_, IsV (.agg #[.int .i64 g1, .int .u32 g2, .int .u32 g3]), IsV (.agg (hL (hR X d)).toArray), IsV (.agg #[.int .i64 d.cur.val, .int .u32 d.cur.ver, .int .u32 d.ref]), IsV (.bool true), IsV ?_, IsV ?_]) (by kernel_rfl) (by kernel_rfl) ((Ext.refl _).drew) (fun w w' h he => h.trans he) (aC (fun _ _ _ h _ => h) (aC (fun _ _ _ h _ => h) (aC (fun _ _ _ h _ => h) (aC (fun _ _ _ h _ => h) (aC (fun _ _ _ h _ => h) (aC (fun _ _ _ h _ => h) (aC (fun _ _ _ h _ => h) (aC (fun _ _ _ h _ => h) (aC (fun _ _ _ h _ => h) (aC (fun _ _ _ h _ => h) (AllOn.nil))))))))))) (aC ?_ (aC ?_ (aC ?_ (aC ?_ (aC ?_ (aC ?_ (aC ?_ (aC ?_ (aC ?_ (aC ?_ (AllOn.nil))))))))))) ?_
   rotate_left 6
   ·intro A w cx hO hD
    have e3 := evO hO 3 rfl
    clear hD hO
    refine hdV rfl ?_ rfl rfl ?_ ?_
    rotate_left 1
    ·simp [go_sem, e3, cx, HL_.out w cx]
     try with_reducible rfl
    ·exact IsV.mk (w := w)
   ·intro A w cx hO hD
    have e8 := evD (hD 0 (by kernel_rfl) 8 rfl)
    clear hD hO
    refine hdV rfl ?_ rfl rfl ?_ ?_
    rotate_left 1
    ·simp [go_sem, e8, cx, HL_.out w cx]
     try with_reducible rfl
    ·exact IsV.mk (w := w)
   ·intro A w cx hO hD
    have e9 := evD (hD 1 (by kernel_rfl) 9 rfl)
    clear hD hO
    refine hdV rfl ?_ rfl rfl ?_ ?_
    rotate_left 1
    ·simp [go_sem, e9, cx, HL_.out w cx]
     try with_reducible rfl
    ·exact IsV.mk (w := w)
   ·intro A w cx hO hD
    have e10 := evD (hD 2 (by kernel_rfl) 10 rfl)
    have e3 := evO hO 3 rfl
    clear hD hO
    refine hdV rfl ?_ (by first | (simp [Region.wanted, yielded]; done) | (have hg_ := tm_bool e10; simp [Region.wanted, yielded, hg_]; done)) rfl ?_ ?_
    rotate_left 1
    ·simp [go_sem, e10, e3, cx, HL_.out w cx]
     try with_reducible rfl
    ·exact IsV.mk (w := w)
   ·intro A w cx hO hD
    have e11 := evD (hD 3 (by kernel_rfl) 11 rfl)
    have e10 := evD (hD 2 (by kernel_rfl) 10 rfl)
    clear hD hO
    refine hdW rfl (by first | (simp [Region.wanted, yielded]; done) | (have hg_ := tm_bool e10; simp [Region.wanted, yielded, hg_]; done)) ?_
    refine ld_pre_op _ _ rfl ((ev_tm A 11).trans e11) _ (HB_bg.out.of cx) (cs := wdE (g1, g2, g3)) pre_wd Tryz.underlying44 rfl Tryz.wInfo ?_
    exact ⟨_, rfl, Ext.refl _, rfl⟩
   ·intro A w cx hO hD
    have e10 := evD (hD 2 (by kernel_rfl) 10 rfl)
    have e2 := evO hO 2 rfl
    clear hD hO
    refine hdW rfl (by first | (simp [Region.wanted, yielded]; done) | (have hg_ := tm_bool e10; simp [Region.wanted, yielded, hg_]; done)) ?_
    refine ld_op _ _ rfl ((ev_tm A 2).trans e2) _ (HB_bx.out.of cx) Tryz.underlying106 rfl Tryz.hInfo ?_
    exact ⟨_, rfl, Ext.refl _, rfl⟩
   ·intro A w cx hO hD
    have e13 := evD (hD 5 (by kernel_rfl) 13 rfl)
    have e10 := evD (hD 2 (by kernel_rfl) 10 rfl)
    clear hD hO
    refine hdW rfl (by first | (simp [Region.wanted, yielded]; done) | (have hg_ := tm_bool e10; simp [Region.wanted, yielded, hg_]; done)) ?_
    simp [go_sem, e13]
    refine (hp_held' d _ (HEU.out.of enE_len cx) HL.out).mono ?_
    rintro e w' ⟨rfl, hx_⟩
    exact ⟨_, rfl, hx_, rfl⟩
   ·intro A w cx hO hD
    have e12 := evD (hD 4 (by kernel_rfl) 12 rfl)
    have e14 := evD (hD 6 (by kernel_rfl) 14 rfl)
    have e10 := evD (hD 2 (by kernel_rfl) 10 rfl)
    clear hD hO
    refine hdW rfl (by first | (simp [Region.wanted, yielded]; done) | (have hg_ := tm_bool e10; simp [Region.wanted, yielded, hg_]; done)) ?_
    simp [go_sem, Oper.wp, execOp, Oper.upon, e12, e14, heq, hga, hq1]
    exact ⟨_, rfl, Ext.refl _, rfl⟩
   ·intro A w cx hO hD
    have e10 := evD (hD 2 (by kernel_rfl) 10 rfl)
    have e15 := evD (hD 7 (by kernel_rfl) 15 rfl)
    clear hD hO
    refine hdV rfl ?_ rfl rfl ?_ ?_
    rotate_left 1
    ·simp [go_sem, e10, e15, cx, HL_.out w cx]
     try with_reducible rfl
    ·exact IsV.mk (w := w)
   ·intro A w cx hO hD
    have e16 := evD (hD 8 (by kernel_rfl) 16 rfl)
    clear hD hO
    refine hdV rfl ?_ rfl rfl ?_ ?_
    rotate_left 1
    ·simp [go_sem, e16, cx, HL_.out w cx]
     try with_reducible rfl
    ·exact IsV.mk (w := w)
   intro u wx hC hF
   obtain ⟨f0, f1, f2, f3, f4, f5, f6, f7, f8, f9, _⟩ := hF
   have g0 : u 0 = _ := f0
   have g1 : u 1 = _ := f1
   have g2 : u 2 = _ := f2
   have g3 : u 3 = _ := f3
   have g4 : u 4 = _ := f4
   have g5 : u 5 = _ := f5
   have g6 : u 6 = _ := f6
   have g7 : u 7 = _ := f7
   have g8 : u 8 = _ := f8
   have g9 : u 9 = _ := f9
   simp only [fPut, Nat.zero_add, Nat.reduceAdd, g0, g1, g2, g3, g4, g5, g6, g7, g8, g9, Act.put, List.setIfInBounds_toArray, List.set_cons_zero, List.set_cons_succ, List.length_cons, List.length_nil, List.drop_succ_cons, List.drop_zero]
   clear g0 g1 g2 g3 g4 g5 g6 g7 g8 g9 f0 f1 f2 f3 f4 f5 f6 f7 f8 f9
   have hxd := hC
   clear hC
   clear w0 w1 w2 w3 wg
   have HE_wx := hid (HE_V.out.trans hxd)
   have HB_bx2 := hid (HB_bx.out.of hxd)
   have HB_bg2 := hid (HB_bg.out.of hxd)
   have HB_br2 := hid (HB_br.out.of hxd)
   have HB_ba2 := hid (HB_ba.out.of hxd)
   clear HB_bx HB_bg HB_br HB_ba
   have HB_bx := HB_bx2
   have HB_bg := HB_bg2
   have HB_br := HB_br2
   have HB_ba := HB_ba2
   clear HB_bx2 HB_bg2 HB_br2 HB_ba2
   clear hxd
   clear HEU
   have x_i : wx.cell? ⟨bx, 12, none⟩ = some (.int .i64 (d.i : Int)) := HB_bx.out.2.2 12 _ rfl
   have x_g := HB_bx.out.1
   have x_f := HB_bx.out.2.1
   go_upto_region 3 with fail
   generalize hZ_ : World.setCell _ _ _ = Q
   have HG_Q := hid (show GrL [bx] wx Q by rw [← hZ_]; exact glP)
   have HB_bx2 := hid (show Blk Q bx (hL (hR X { d with i := iq })) by rw [← hZ_]; exact HB_bx.out.set 12 (of_decide_eq_true rfl) _)
   clear hZ_ HB_bx x_i x_g x_f
   have HB_bx := HB_bx2
   clear HB_bx2
   have HE_Q := hid (HE_wx.out.grl HG_Q.out (by have h1 := HN_V.out; simp; omega))
   have HB_br2 := hid (HB_br.out.grl HG_Q.out (by have h1 := HN_V.out; simp; omega))
   clear HB_br
   have HB_br := HB_br2
   clear HB_br2
   have HB_ba2 := hid (HB_ba.out.grl HG_Q.out (by have h1 := HN_V.out; simp; omega))
   clear HB_ba
   have HB_ba := HB_ba2
   clear HB_ba2
   have HB_bg2 := hid (HB_bg.out.grl HG_Q.out (by have h1 := HN_V.out; simp; omega))
   clear HB_bg
   have HB_bg := HB_bg2
   clear HB_bg2
   have HEU := hid (show Sl Q 6 enE X.es d.es from HEs.out.of enE_len HE_Q.out)
   go_wp2_with (first | (refine ld_blk rfl 106 _ rfl rfl _ HB_bx.out Tryz.underlying106 rfl Tryz.hInfo ?_))
   refine (hp_install HO.out { d with i := iq } HDq.out Q HEU.out).mono ?_
   rintro e w1 ⟨rfl, he⟩
   have HE1 := hid (HE_Q.out.trans he)
   have HBr := hid (HB_br.out.of he)
   have HBa := hid (HB_ba.out.of he)
   clear he
   go_wp2_with (first | (refine st_blk rfl 106 _ _ rfl rfl rfl HBr.out rfl Tryz.hInfo (Hr.One.all (hR_one HO.out _)) ?_; intro W1 hb1 hg1) | (refine st_blk rfl 46 _ _ rfl rfl rfl (HBa.out.grl hg1 (by have h1 := HN_V.out; simp; omega)) rfl Tryz.aInfo (a8E_one' _) ?_; intro W2 hb2 hg2))
   exact bodyPost_ret (res3 Tryz.results152 rfl rfl rfl (hb1.grl hg2 (by have h1 := HN_V.out; simp; omega)) hb2 Tryz.underlying106 rfl Tryz.hInfo Tryz.underlying46 rfl Tryz.aInfo) rfl ⟨rfl, (HE1.out.grl hg1 (by have h1 := HN_V.out; simp; omega)).grl hg2 (by have h1 := HN_V.out; simp; omega)⟩
  ·cases hf : hpForeign X.t X.c X.b d (g1, g2, g3)
   ·have HR := hid (show hpInstalled X.t X.c X.b X.dur d ((g1, g2, g3), false) = hpDecide X.dur d 2 by unfold hpInstalled; rw [if_neg (by intro h; rcases h with h | h; exact Bool.false_ne_true h; exact h1 h)]; dsimp only; rw [hf]; rfl)
    rw [HR.out]
    have HF := hid hf
    clear hf
    have hq1 : wdB (g1, g2, g3) (d.cur.val, d.cur.ver, d.ref) = false := decide_eq_false h1
    clear h1
    have heq := eq_word g1 g2 g3 d.cur.val d.cur.ver d.ref
    have hga := eq_guard_word
    go_enter Tryz.func152, Tryz.ntmps152
    go_upto_region 1 with fail
    generalize hV_ : World.alloc _ _ = V
    have HE_V := hid (show Ext w V by rw [← hV_]; exact exP)
    have HB_bx := hid (show Blk V (w.heap.size) (hL (hR X d)) by rw [← hV_]; exact bkP)
    have HB_bg := hid (show Blk V (w.heap.size + 1) (gtE ((g1, g2, g3), false)) by rw [← hV_]; exact bkP)
    have HB_br := hid (show Blk V (w.heap.size + 1 + 1) zH by rw [← hV_]; exact bkP)
    have HB_ba := hid (show Blk V (w.heap.size + 1 + 1 + 1) [.int .i64 0, .int .i64 0, .int .i64 0, .int .u32 0, .int .u32 0, .int .i64 0, .int .u32 0, .int .u32 0] by rw [← hV_]; exact bkP)
    clear hV_
    obtain ⟨ba, hg_ba⟩ : ∃ g, g = w.heap.size + 1 + 1 + 1 := ⟨_, rfl⟩
    simp only [← hg_ba] at HB_ba ⊢
    obtain ⟨br, hg_br⟩ : ∃ g, g = w.heap.size + 1 + 1 := ⟨_, rfl⟩
    simp only [← hg_br] at HB_br ⊢
    obtain ⟨bg, hg_bg⟩ : ∃ g, g = w.heap.size + 1 := ⟨_, rfl⟩
    simp only [← hg_bg] at HB_bg ⊢
    obtain ⟨bx, hg_bx⟩ : ∃ g, g = w.heap.size := ⟨_, rfl⟩
    simp only [← hg_bx] at HB_bx ⊢
    have HN_V := hid (show bx = w.heap.size ∧ bg = w.heap.size + 1 ∧ br = w.heap.size + 1 + 1 ∧ ba = w.heap.size + 1 + 1 + 1 ∧ ba < V.heap.size from ⟨hg_bx, hg_bg, hg_br, hg_ba, HB_ba.out.1⟩)
    clear hg_bx hg_bg hg_br hg_ba
    have HEU := hid (show Sl V 6 enE X.es d.es from HEs.out.of enE_len HE_V.out)
    have w0 : V.cell? ⟨bg, 0, none⟩ = some (.int .i64 g1) := HB_bg.out.2.2 0 _ rfl
    have w1 : V.cell? ⟨bg, 1, none⟩ = some (.int .u32 g2) := HB_bg.out.2.2 1 _ rfl
    have w2 : V.cell? ⟨bg, 2, none⟩ = some (.int .u32 g3) := HB_bg.out.2.2 2 _ rfl
    have w3 : V.cell? ⟨bg, 3, none⟩ = some (.bool false) := HB_bg.out.2.2 3 _ rfl
    have wg := HB_bg.out.1
    have HL_ := hid (fun w' (h : Ext V w') => (And.intro (Nat.lt_of_lt_of_le wg h.size) (And.intro (h.cell w0) (And.intro (h.cell w1) (And.intro (h.cell w2) (h.cell w3))))))
    refine wp_region_facts [8, 9, 10, 11, 12, 13, 14, 15, 16, 7] [0, 1, 2, 3, 4, 5, 6, 7, 8, 9] rfl (fun w' => Ext V w') (fsAt [IsV ?_, IsV ?_, IsV ?_, IsV ?_, IsV (.agg #[.int .i64 g1, .int .u32 g2, .int .u32 g3]), IsV (.agg (hL (hR X d)).toArray), IsV (.agg #[.int .i64 d.cur.val, .int .u32 d.cur.ver, .int .u32 d.ref]), IsV (.bool false), IsV ?_, IsV ?_]) (by kernel_rfl) (by kernel_rfl) ((Ext.refl _).drew) (fun w w' h he => h.trans he) (aC (fun _ _ _ h _ => h) (aC (fun _ _ _ h _ => h) (aC (fun _ _ _ h _ => h) (aC (fun _ _ _ h _ => h) (aC (fun _ _ _ h _ => h) (aC (fun _ _ _ h _ => h) (aC (fun _ _ _ h _ => h) (aC (fun _ _ _ h _ => h) (aC (fun _ _ _ h _ => h) (aC (fun _ _ _ h _ => h) (AllOn.nil))))))))))) (aC ?_ (aC ?_ (aC ?_ (aC ?_ (aC ?_ (aC ?_ (aC ?_ (aC ?_ (aC ?_ (aC ?_ (AllOn.nil))))))))))) ?_
    rotate_left 6
    ·intro A w cx hO hD
     have e3 := evO hO 3 rfl
     clear hD hO
     refine hdV rfl ?_ rfl rfl ?_ ?_
     rotate_left 1
     ·simp [go_sem, e3, cx, HL_.out w cx]
      try with_reducible rfl
     ·exact IsV.mk (w := w)
    ·intro A w cx hO hD
     have e8 := evD (hD 0 (by kernel_rfl) 8 rfl)
     clear hD hO
     refine hdV rfl ?_ rfl rfl ?_ ?_
     rotate_left 1
     ·simp [go_sem, e8, cx, HL_.out w cx]
      try with_reducible rfl
     ·exact IsV.mk (w := w)
    ·intro A w cx hO hD
     have e9 := evD (hD 1 (by kernel_rfl) 9 rfl)
     clear hD hO
     refine hdV rfl ?_ rfl rfl ?_ ?_
     rotate_left 1
     ·simp [go_sem, e9, cx, HL_.out w cx]
      try with_reducible rfl
     ·exact IsV.mk (w := w)
    ·intro A w cx hO hD
     have e10 := evD (hD 2 (by kernel_rfl) 10 rfl)
     have e3 := evO hO 3 rfl
     clear hD hO
     refine hdV rfl ?_ (by first | (simp [Region.wanted, yielded]; done) | (have hg_ := tm_bool e10; simp [Region.wanted, yielded, hg_]; done)) rfl ?_ ?_
     rotate_left 1
     ·simp [go_sem, e10, e3, cx, HL_.out w cx]
      try with_reducible rfl
     ·exact IsV.mk (w := w)
    ·intro A w cx hO hD
     have e11 := evD (hD 3 (by kernel_rfl) 11 rfl)
     have e10 := evD (hD 2 (by kernel_rfl) 10 rfl)
     clear hD hO
     refine hdW rfl (by first | (simp [Region.wanted, yielded]; done) | (have hg_ := tm_bool e10; simp [Region.wanted, yielded, hg_]; done)) ?_
     refine ld_pre_op _ _ rfl ((ev_tm A 11).trans e11) _ (HB_bg.out.of cx) (cs := wdE (g1, g2, g3)) pre_wd Tryz.underlying44 rfl Tryz.wInfo ?_
     exact ⟨_, rfl, Ext.refl _, rfl⟩
    ·intro A w cx hO hD
     have e10 := evD (hD 2 (by kernel_rfl) 10 rfl)
     have e2 := evO hO 2 rfl
     clear hD hO
     refine hdW rfl (by first | (simp [Region.wanted, yielded]; done) | (have hg_ := tm_bool e10; simp [Region.wanted, yielded, hg_]; done)) ?_
     refine ld_op _ _ rfl ((ev_tm A 2).trans e2) _ (HB_bx.out.of cx) Tryz.underlying106 rfl Tryz.hInfo ?_
     exact ⟨_, rfl, Ext.refl _, rfl⟩
    ·intro A w cx hO hD
     have e13 := evD (hD 5 (by kernel_rfl) 13 rfl)
     have e10 := evD (hD 2 (by kernel_rfl) 10 rfl)
     clear hD hO
     refine hdW rfl (by first | (simp [Region.wanted, yielded]; done) | (have hg_ := tm_bool e10; simp [Region.wanted, yielded, hg_]; done)) ?_
     simp [go_sem, e13]
     refine (hp_held' d _ (HEU.out.of enE_len cx) HL.out).mono ?_
     rintro e w' ⟨rfl, hx_⟩
     exact ⟨_, rfl, hx_, rfl⟩
    ·intro A w cx hO hD
     have e12 := evD (hD 4 (by kernel_rfl) 12 rfl)
     have e14 := evD (hD 6 (by kernel_rfl) 14 rfl)
     have e10 := evD (hD 2 (by kernel_rfl) 10 rfl)
     clear hD hO
     refine hdW rfl (by first | (simp [Region.wanted, yielded]; done) | (have hg_ := tm_bool e10; simp [Region.wanted, yielded, hg_]; done)) ?_
     simp [go_sem, Oper.wp, execOp, Oper.upon, e12, e14, heq, hga, hq1]
     exact ⟨_, rfl, Ext.refl _, rfl⟩
    ·intro A w cx hO hD
     have e10 := evD (hD 2 (by kernel_rfl) 10 rfl)
     have e15 := evD (hD 7 (by kernel_rfl) 15 rfl)
     clear hD hO
     refine hdV rfl ?_ rfl rfl ?_ ?_
     rotate_left 1
     ·simp [go_sem, e10, e15, cx, HL_.out w cx]
      try with_reducible rfl
     ·exact IsV.mk (w := w)
    ·intro A w cx hO hD
     have e16 := evD (hD 8 (by kernel_rfl) 16 rfl)
     clear hD hO
     refine hdV rfl ?_ rfl rfl ?_ ?_
     rotate_left 1
     ·simp [go_sem, e16, cx, HL_.out w cx]
      try with_reducible rfl
     ·exact IsV.mk (w := w)
    intro u wx hC hF
    obtain ⟨f0, f1, f2, f3, f4, f5, f6, f7, f8, f9, _⟩ := hF
    have g0 : u 0 = _ := f0
    have g1 : u 1 = _ := f1
    have g2 : u 2 = _ := f2
    have g3 : u 3 = _ := f3
    have g4 : u 4 = _ := f4
    have g5 : u 5 = _ := f5
    have g6 : u 6 = _ := f6
    have g7 : u 7 = _ := f7
    have g8 : u 8 = _ := f8
    have g9 : u 9 = _ := f9
    simp only [fPut, Nat.zero_add, Nat.reduceAdd, g0, g1, g2, g3, g4, g5, g6, g7, g8, g9, Act.put, List.setIfInBounds_toArray, List.set_cons_zero, List.set_cons_succ, List.length_cons, List.length_nil, List.drop_succ_cons, List.drop_zero]
    clear g0 g1 g2 g3 g4 g5 g6 g7 g8 g9 f0 f1 f2 f3 f4 f5 f6 f7 f8 f9
    have hxd := hC
    clear hC
    clear w0 w1 w2 w3 wg
    have HE_wx := hid (HE_V.out.trans hxd)
    have HB_bx2 := hid (HB_bx.out.of hxd)
    have HB_bg2 := hid (HB_bg.out.of hxd)
    have HB_br2 := hid (HB_br.out.of hxd)
    have HB_ba2 := hid (HB_ba.out.of hxd)
    clear HB_bx HB_bg HB_br HB_ba
    have HB_bx := HB_bx2
    have HB_bg := HB_bg2
    have HB_br := HB_br2
    have HB_ba := HB_ba2
    clear HB_bx2 HB_bg2 HB_br2 HB_ba2
    clear hxd
    clear HEU
    have w0 : wx.cell? ⟨bg, 0, none⟩ = some (.int .i64 g1) := HB_bg.out.2.2 0 _ rfl
    have w1 : wx.cell? ⟨bg, 1, none⟩ = some (.int .u32 g2) := HB_bg.out.2.2 1 _ rfl
    have w2 : wx.cell? ⟨bg, 2, none⟩ = some (.int .u32 g3) := HB_bg.out.2.2 2 _ rfl
    have w3 : wx.cell? ⟨bg, 3, none⟩ = some (.bool false) := HB_bg.out.2.2 3 _ rfl
    have wg := HB_bg.out.1
    go_wp2_with (first | (refine ld_blk rfl 106 _ rfl rfl _ HB_bx.out Tryz.underlying106 rfl Tryz.hInfo ?_))
    refine (hp_foreign d (g1, g2, g3) HG3.out wx (HS.out.of HE_wx.out)).mono ?_
    rintro e wy ⟨rfl, hx_⟩
    rw [HF.out]
    clear w0 w1 w2 w3 wg
    have HE_wy := hid (HE_wx.out.trans hx_)
    have HB_bx2 := hid (HB_bx.out.of hx_)
    have HB_bg2 := hid (HB_bg.out.of hx_)
    have HB_br2 := hid (HB_br.out.of hx_)
    have HB_ba2 := hid (HB_ba.out.of hx_)
    clear HB_bx HB_bg HB_br HB_ba
    have HB_bx := HB_bx2
    have HB_bg := HB_bg2
    have HB_br := HB_br2
    have HB_ba := HB_ba2
    clear HB_bx2 HB_bg2 HB_br2 HB_ba2
    clear hx_
    have HEU := hid (show Sl wy 6 enE X.es d.es from HEs.out.of enE_len HE_wy.out)
    go_wp2_with (first | (refine ld_blk rfl 106 _ rfl rfl _ HB_bx.out Tryz.underlying106 rfl Tryz.hInfo ?_))
    refine (hp_decide HO.out d HDn.out 2 (.inr rfl) wy HEU.out).mono ?_
    rintro e w1 ⟨rfl, he⟩
    have HE1 := hid (HE_wy.out.trans he)
    have HBr := hid (HB_br.out.of he)
    have HBa := hid (HB_ba.out.of he)
    clear he
    go_wp2_with (first | (refine st_blk rfl 106 _ _ rfl rfl rfl HBr.out rfl Tryz.hInfo (Hr.One.all (hR_one HO.out _)) ?_; intro W1 hb1 hg1) | (refine st_blk rfl 46 _ _ rfl rfl rfl (HBa.out.grl hg1 (by have h1 := HN_V.out; simp; omega)) rfl Tryz.aInfo (a8E_one' _) ?_; intro W2 hb2 hg2))
    exact bodyPost_ret (res3 Tryz.results152 rfl rfl rfl (hb1.grl hg2 (by have h1 := HN_V.out; simp; omega)) hb2 Tryz.underlying106 rfl Tryz.hInfo Tryz.underlying46 rfl Tryz.aInfo) rfl ⟨rfl, (HE1.out.grl hg1 (by have h1 := HN_V.out; simp; omega)).grl hg2 (by have h1 := HN_V.out; simp; omega)⟩
   ·have HR := hid (show hpInstalled X.t X.c X.b X.dur d ((g1, g2, g3), false) = hpLook { d with met := (g1, g2, g3) } 6 by unfold hpInstalled; rw [if_neg (by intro h; rcases h with h | h; exact Bool.false_ne_true h; exact h1 h)]; dsimp only; rw [hf]; rfl)
    rw [HR.out]
    have HF := hid hf
    clear hf
    have hq1 : wdB (g1, g2, g3) (d.cur.val, d.cur.ver, d.ref) = false := decide_eq_false h1
    clear h1
    have heq := eq_word g1 g2 g3 d.cur.val d.cur.ver d.ref
    have hga := eq_guard_word
    go_enter Tryz.func152, Tryz.ntmps152
    go_upto_region 1 with fail
    generalize hV_ : World.alloc _ _ = V
    have HE_V := hid (show Ext w V by rw [← hV_]; exact exP)
    have HB_bx := hid (show Blk V (w.heap.size) (hL (hR X d)) by rw [← hV_]; exact bkP)
    have HB_bg := hid (show Blk V (w.heap.size + 1) (gtE ((g1, g2, g3), false)) by rw [← hV_]; exact bkP)
    have HB_br := hid (show Blk V (w.heap.size + 1 + 1) zH by rw [← hV_]; exact bkP)
    have HB_ba := hid (show Blk V (w.heap.size + 1 + 1 + 1) [.int .i64 0, .int .i64 0, .int .i64 0, .int .u32 0, .int .u32 0, .int .i64 0, .int .u32 0, .int .u32 0] by rw [← hV_]; exact bkP)
    clear hV_
    obtain ⟨ba, hg_ba⟩ : ∃ g, g = w.heap.size + 1 + 1 + 1 := ⟨_, rfl⟩
    simp only [← hg_ba] at HB_ba ⊢
    obtain ⟨br, hg_br⟩ : ∃ g, g = w.heap.size + 1 + 1 := ⟨_, rfl⟩
    simp only [← hg_br] at HB_br ⊢
    obtain ⟨bg, hg_bg⟩ : ∃ g, g = w.heap.size + 1 := ⟨_, rfl⟩
    simp only [← hg_bg] at HB_bg ⊢
    obtain ⟨bx, hg_bx⟩ : ∃ g, g = w.heap.size := ⟨_, rfl⟩
    simp only [← hg_bx] at HB_bx ⊢
    have HN_V := hid (show bx = w.heap.size ∧ bg = w.heap.size + 1 ∧ br = w.heap.size + 1 + 1 ∧ ba = w.heap.size + 1 + 1 + 1 ∧ ba < V.heap.size from ⟨hg_bx, hg_bg, hg_br, hg_ba, HB_ba.out.1⟩)
    clear hg_bx hg_bg hg_br hg_ba
    have HEU := hid (show Sl V 6 enE X.es d.es from HEs.out.of enE_len HE_V.out)
    have w0 : V.cell? ⟨bg, 0, none⟩ = some (.int .i64 g1) := HB_bg.out.2.2 0 _ rfl
    have w1 : V.cell? ⟨bg, 1, none⟩ = some (.int .u32 g2) := HB_bg.out.2.2 1 _ rfl
    have w2 : V.cell? ⟨bg, 2, none⟩ = some (.int .u32 g3) := HB_bg.out.2.2 2 _ rfl
    have w3 : V.cell? ⟨bg, 3, none⟩ = some (.bool false) := HB_bg.out.2.2 3 _ rfl
    have wg := HB_bg.out.1
    have HL_ := hid (fun w' (h : Ext V w') => (And.intro (Nat.lt_of_lt_of_le wg h.size) (And.intro (h.cell w0) (And.intro (h.cell w1) (And.intro (h.cell w2) (h.cell w3))))))
    refine wp_region_facts [8, 9, 10, 11, 12, 13, 14, 15, 16, 7] [0, 1, 2, 3, 4, 5, 6, 7, 8, 9] rfl (fun w' => Ext V w') (fsAt [IsV ?_, IsV ?_, IsV ?_, IsV ?_, IsV (.agg #[.int .i64 g1, .int .u32 g2, .int .u32 g3]), IsV (.agg (hL (hR X d)).toArray), IsV (.agg #[.int .i64 d.cur.val, .int .u32 d.cur.ver, .int .u32 d.ref]), IsV (.bool false), IsV ?_, IsV ?_]) (by kernel_rfl) (by kernel_rfl) ((Ext.refl _).drew) (fun w w' h he => h.trans he) (aC (fun _ _ _ h _ => h) (aC (fun _ _ _ h _ => h) (aC (fun _ _ _ h _ => h) (aC (fun _ _ _ h _ => h) (aC (fun _ _ _ h _ => h) (aC (fun _ _ _ h _ => h) (aC (fun _ _ _ h _ => h) (aC (fun _ _ _ h _ => h) (aC (fun _ _ _ h _ => h) (aC (fun _ _ _ h _ => h) (AllOn.nil))))))))))) (aC ?_ (aC ?_ (aC ?_ (aC ?_ (aC ?_ (aC ?_ (aC ?_ (aC ?_ (aC ?_ (aC ?_ (AllOn.nil))))))))))) ?_
    rotate_left 6
    ·intro A w cx hO hD
     have e3 := evO hO 3 rfl
     clear hD hO
     refine hdV rfl ?_ rfl rfl ?_ ?_
     rotate_left 1
     ·simp [go_sem, e3, cx, HL_.out w cx]
      try with_reducible rfl
     ·exact IsV.mk (w := w)
    ·intro A w cx hO hD
     have e8 := evD (hD 0 (by kernel_rfl) 8 rfl)
     clear hD hO
     refine hdV rfl ?_ rfl rfl ?_ ?_
     rotate_left 1
     ·simp [go_sem, e8, cx, HL_.out w cx]
      try with_reducible rfl
     ·exact IsV.mk (w := w)
    ·intro A w cx hO hD
     have e9 := evD (hD 1 (by kernel_rfl) 9 rfl)
     clear hD hO
     refine hdV rfl ?_ rfl rfl ?_ ?_
     rotate_left 1
     ·simp [go_sem, e9, cx, HL_.out w cx]
      try with_reducible rfl
     ·exact IsV.mk (w := w)
    ·intro A w cx hO hD
     have e10 := evD (hD 2 (by kernel_rfl) 10 rfl)
     have e3 := evO hO 3 rfl
     clear hD hO
     refine hdV rfl ?_ (by first | (simp [Region.wanted, yielded]; done) | (have hg_ := tm_bool e10; simp [Region.wanted, yielded, hg_]; done)) rfl ?_ ?_
     rotate_left 1
     ·simp [go_sem, e10, e3, cx, HL_.out w cx]
      try with_reducible rfl
     ·exact IsV.mk (w := w)
    ·intro A w cx hO hD
     have e11 := evD (hD 3 (by kernel_rfl) 11 rfl)
     have e10 := evD (hD 2 (by kernel_rfl) 10 rfl)
     clear hD hO
     refine hdW rfl (by first | (simp [Region.wanted, yielded]; done) | (have hg_ := tm_bool e10; simp [Region.wanted, yielded, hg_]; done)) ?_
     refine ld_pre_op _ _ rfl ((ev_tm A 11).trans e11) _ (HB_bg.out.of cx) (cs := wdE (g1, g2, g3)) pre_wd Tryz.underlying44 rfl Tryz.wInfo ?_
     exact ⟨_, rfl, Ext.refl _, rfl⟩
    ·intro A w cx hO hD
     have e10 := evD (hD 2 (by kernel_rfl) 10 rfl)
     have e2 := evO hO 2 rfl
     clear hD hO
     refine hdW rfl (by first | (simp [Region.wanted, yielded]; done) | (have hg_ := tm_bool e10; simp [Region.wanted, yielded, hg_]; done)) ?_
     refine ld_op _ _ rfl ((ev_tm A 2).trans e2) _ (HB_bx.out.of cx) Tryz.underlying106 rfl Tryz.hInfo ?_
     exact ⟨_, rfl, Ext.refl _, rfl⟩
    ·intro A w cx hO hD
     have e13 := evD (hD 5 (by kernel_rfl) 13 rfl)
     have e10 := evD (hD 2 (by kernel_rfl) 10 rfl)
     clear hD hO
     refine hdW rfl (by first | (simp [Region.wanted, yielded]; done) | (have hg_ := tm_bool e10; simp [Region.wanted, yielded, hg_]; done)) ?_
     simp [go_sem, e13]
     refine (hp_held' d _ (HEU.out.of enE_len cx) HL.out).mono ?_
     rintro e w' ⟨rfl, hx_⟩
     exact ⟨_, rfl, hx_, rfl⟩
    ·intro A w cx hO hD
     have e12 := evD (hD 4 (by kernel_rfl) 12 rfl)
     have e14 := evD (hD 6 (by kernel_rfl) 14 rfl)
     have e10 := evD (hD 2 (by kernel_rfl) 10 rfl)
     clear hD hO
     refine hdW rfl (by first | (simp [Region.wanted, yielded]; done) | (have hg_ := tm_bool e10; simp [Region.wanted, yielded, hg_]; done)) ?_
     simp [go_sem, Oper.wp, execOp, Oper.upon, e12, e14, heq, hga, hq1]
     exact ⟨_, rfl, Ext.refl _, rfl⟩
    ·intro A w cx hO hD
     have e10 := evD (hD 2 (by kernel_rfl) 10 rfl)
     have e15 := evD (hD 7 (by kernel_rfl) 15 rfl)
     clear hD hO
     refine hdV rfl ?_ rfl rfl ?_ ?_
     rotate_left 1
     ·simp [go_sem, e10, e15, cx, HL_.out w cx]
      try with_reducible rfl
     ·exact IsV.mk (w := w)
    ·intro A w cx hO hD
     have e16 := evD (hD 8 (by kernel_rfl) 16 rfl)
     clear hD hO
     refine hdV rfl ?_ rfl rfl ?_ ?_
     rotate_left 1
     ·simp [go_sem, e16, cx, HL_.out w cx]
      try with_reducible rfl
     ·exact IsV.mk (w := w)
    intro u wx hC hF
    obtain ⟨f0, f1, f2, f3, f4, f5, f6, f7, f8, f9, _⟩ := hF
    have g0 : u 0 = _ := f0
    have g1 : u 1 = _ := f1
    have g2 : u 2 = _ := f2
    have g3 : u 3 = _ := f3
    have g4 : u 4 = _ := f4
    have g5 : u 5 = _ := f5
    have g6 : u 6 = _ := f6
    have g7 : u 7 = _ := f7
    have g8 : u 8 = _ := f8
    have g9 : u 9 = _ := f9
    simp only [fPut, Nat.zero_add, Nat.reduceAdd, g0, g1, g2, g3, g4, g5, g6, g7, g8, g9, Act.put, List.setIfInBounds_toArray, List.set_cons_zero, List.set_cons_succ, List.length_cons, List.length_nil, List.drop_succ_cons, List.drop_zero]
    clear g0 g1 g2 g3 g4 g5 g6 g7 g8 g9 f0 f1 f2 f3 f4 f5 f6 f7 f8 f9
    have hxd := hC
    clear hC
    clear w0 w1 w2 w3 wg
    have HE_wx := hid (HE_V.out.trans hxd)
    have HB_bx2 := hid (HB_bx.out.of hxd)
    have HB_bg2 := hid (HB_bg.out.of hxd)
    have HB_br2 := hid (HB_br.out.of hxd)
    have HB_ba2 := hid (HB_ba.out.of hxd)
    clear HB_bx HB_bg HB_br HB_ba
    have HB_bx := HB_bx2
    have HB_bg := HB_bg2
    have HB_br := HB_br2
    have HB_ba := HB_ba2
    clear HB_bx2 HB_bg2 HB_br2 HB_ba2
    clear hxd
    clear HEU
    have w0 : wx.cell? ⟨bg, 0, none⟩ = some (.int .i64 g1) := HB_bg.out.2.2 0 _ rfl
    have w1 : wx.cell? ⟨bg, 1, none⟩ = some (.int .u32 g2) := HB_bg.out.2.2 1 _ rfl
    have w2 : wx.cell? ⟨bg, 2, none⟩ = some (.int .u32 g3) := HB_bg.out.2.2 2 _ rfl
    have w3 : wx.cell? ⟨bg, 3, none⟩ = some (.bool false) := HB_bg.out.2.2 3 _ rfl
    have wg := HB_bg.out.1
    go_wp2_with (first | (refine ld_blk rfl 106 _ rfl rfl _ HB_bx.out Tryz.underlying106 rfl Tryz.hInfo ?_))
    refine (hp_foreign d (g1, g2, g3) HG3.out wx (HS.out.of HE_wx.out)).mono ?_
    rintro e wy ⟨rfl, hx_⟩
    rw [HF.out]
    clear w0 w1 w2 w3 wg
    have HE_wy := hid (HE_wx.out.trans hx_)
    have HB_bx2 := hid (HB_bx.out.of hx_)
    have HB_bg2 := hid (HB_bg.out.of hx_)
    have HB_br2 := hid (HB_br.out.of hx_)
    have HB_ba2 := hid (HB_ba.out.of hx_)
    clear HB_bx HB_bg HB_br HB_ba
    have HB_bx := HB_bx2
    have HB_bg := HB_bg2
    have HB_br := HB_br2
    have HB_ba := HB_ba2
    clear HB_bx2 HB_bg2 HB_br2 HB_ba2
    clear hx_
    have w0 : wy.cell? ⟨bg, 0, none⟩ = some (.int .i64 g1) := HB_bg.out.2.2 0 _ rfl
    have w1 : wy.cell? ⟨bg, 1, none⟩ = some (.int .u32 g2) := HB_bg.out.2.2 1 _ rfl
    have w2 : wy.cell? ⟨bg, 2, none⟩ = some (.int .u32 g3) := HB_bg.out.2.2 2 _ rfl
    have w3 : wy.cell? ⟨bg, 3, none⟩ = some (.bool false) := HB_bg.out.2.2 3 _ rfl
    have wg := HB_bg.out.1
    have x_m1 : wy.cell? ⟨bx, 14, none⟩ = some (.int .i64 d.met.1) := HB_bx.out.2.2 14 _ rfl
    have x_m2 : wy.cell? ⟨bx, 15, none⟩ = some (.int .u32 d.met.2.1) := HB_bx.out.2.2 15 _ rfl
    have x_m3 : wy.cell? ⟨bx, 16, none⟩ = some (.int .u32 d.met.2.2) := HB_bx.out.2.2 16 _ rfl
    have x_g := HB_bx.out.1
    have x_f := HB_bx.out.2.1
    go_upto_region 6 with fail
    generalize hZ_ : World.setCell _ _ _ = Q
    have HG_Q := hid (show GrL [bx] wy Q by rw [← hZ_]; exact glP)
    have HB_bx2 := hid (show Blk Q bx (hL (hR X { d with met := (g1, g2, g3) })) by rw [← hZ_]; exact ((HB_bx.out.set 14 (of_decide_eq_true rfl) _).set 15 (of_decide_eq_true rfl) _).set 16 (of_decide_eq_true rfl) _)
    clear hZ_ HB_bx x_m1 x_m2 x_m3 x_g x_f
    have HB_bx := HB_bx2
    clear HB_bx2
    have HE_Q := hid (HE_wy.out.grl HG_Q.out (by have h1 := HN_V.out; simp; omega))
    have HB_br2 := hid (HB_br.out.grl HG_Q.out (by have h1 := HN_V.out; simp; omega))
    clear HB_br
    have HB_br := HB_br2
    clear HB_br2
    have HB_ba2 := hid (HB_ba.out.grl HG_Q.out (by have h1 := HN_V.out; simp; omega))
    clear HB_ba
    have HB_ba := HB_ba2
    clear HB_ba2
    clear w0 w1 w2 w3 wg
    go_wp2_with (first | (refine ld_blk rfl 106 _ rfl rfl _ HB_bx.out Tryz.underlying106 rfl Tryz.hInfo ?_))
    refine (hp_look HO.out { d with met := (g1, g2, g3) } 6 Q).mono ?_
    rintro e w1 ⟨rfl, he⟩
    have HE1 := hid (HE_Q.out.trans he)
    have HBr := hid (HB_br.out.of he)
    have HBa := hid (HB_ba.out.of he)
    clear he
    go_wp2_with (first | (refine st_blk rfl 106 _ _ rfl rfl rfl HBr.out rfl Tryz.hInfo (Hr.One.all (hR_one HO.out _)) ?_; intro W1 hb1 hg1) | (refine st_blk rfl 46 _ _ rfl rfl rfl (HBa.out.grl hg1 (by have h1 := HN_V.out; simp; omega)) rfl Tryz.aInfo (a8E_one' _) ?_; intro W2 hb2 hg2))
    exact bodyPost_ret (res3 Tryz.results152 rfl rfl rfl (hb1.grl hg2 (by have h1 := HN_V.out; simp; omega)) hb2 Tryz.underlying106 rfl Tryz.hInfo Tryz.underlying46 rfl Tryz.aInfo) rfl ⟨rfl, (HE1.out.grl hg1 (by have h1 := HN_V.out; simp; omega)).grl hg2 (by have h1 := HN_V.out; simp; omega)⟩
end Go.Proofs.YtiacdohaiidehaaGreatDoor
