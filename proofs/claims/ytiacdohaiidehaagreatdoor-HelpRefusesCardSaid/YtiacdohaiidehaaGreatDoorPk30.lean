/- Walks of package help: stale, place, plain, held, end. -/
import Derived.Test.YtiacdohaiidehaaGreatDoorPk29
namespace Go.Proofs.YtiacdohaiidehaaGreatDoor
set_option linter.unusedSimpArgs false
set_option linter.unusedVariables false
open Go.RowKit
structure HdN (d : Hd) : Prop where
 seq : 0 ≤ d.seq ∧ d.seq ≤ 16777215
 ref : 0 ≤ d.ref ∧ d.ref ≤ 4294967295
 at_ : 0 ≤ d.at_ ∧ d.at_ ≤ 30000
 who : 0 ≤ d.who ∧ d.who ≤ 72
 most : 0 ≤ d.most ∧ d.most ≤ 32
 i : d.i ≤ d.es.length
 es : d.es.length ≤ 100
 ws : d.ws.length ≤ 100
 many : 0 ≤ d.many ∧ d.many ≤ 32
theorem cur_at {w : World} {X : HX} {d : Hd} (he : Sl w 6 enE X.es d.es) (hi : d.i < d.es.length) : ∃ (eb eo ec n : Nat), n = d.es.length ∧ X.es = .slice (some ⟨eb, eo, none⟩) n ec ∧ eb < w.heap.size ∧ (d.i : Int) < (n : Int) ∧
 ∀ w', Ext w w' → eb < w'.heap.size ∧ w'.cell? ⟨eb, eo + d.i * 6, none⟩ = some (.int .i64 d.cur.loc) ∧ w'.cell? ⟨eb, eo + d.i * 6 + 1, none⟩ = some (.int .i64 d.cur.val) ∧ w'.cell? ⟨eb, eo + d.i * 6 + 2, none⟩ = some (.int .u32 d.cur.ver) ∧ w'.cell? ⟨eb, eo + d.i * 6 + 3, none⟩ = some (.int .u32 d.cur.ref) ∧ w'.cell? ⟨eb, eo + d.i * 6 + 4, none⟩ = some (.int .i64 d.cur.new) ∧ w'.cell? ⟨eb, eo + d.i * 6 + 5, none⟩ = some (.bool d.cur.wr) := by
 obtain ⟨e, hx⟩ : ∃ e, d.es[d.i]? = some e := ⟨_, List.getElem?_eq_getElem hi⟩
 have hcur : d.cur = e := by unfold Hd.cur; rw [hx]; rfl
 obtain ⟨ea, ec, hv, hm, hq⟩ := he
 obtain ⟨eb, eo, rfl, hb, hc⟩ := hq (by intro h; rw [h] at hi; simp at hi)
 refine ⟨eb, eo, ec, _, rfl, hv, hb, by omega, fun w' hE => ?_⟩
 rw [hcur]
 have h := hc _ _ hx
 exact ⟨Nat.lt_of_lt_of_le hb hE.size, hE.cell (h 0 (by decide)), hE.cell (h 1 (by decide)), hE.cell (h 2 (by decide)), hE.cell (h 3 (by decide)), hE.cell (h 4 (by decide)), hE.cell (h 5 (by decide))⟩
theorem res1 {P : Program} {w : World} {fn : Func} {tmps : Array Value} {k1 : Nat} {t1 : TypeId} {b1 : Nat} {c1 : List Value} {d1 : TypeDesc} (hr : fn.results = #[.cell k1 t1])
 (h1 : tmps[k1]?.getD undef = .pointer (some ⟨b1, 0, none⟩)) (B1 : Blk w b1 c1) (hu1 : P.underlying t1 = some d1) (hd1 : d1.isRow = true) (hi1 : (P.info? t1).map (·.size) = some c1.length) :
 (results fn tmps).run P w = .ok (.agg c1.toArray) w := by
 have e1 := run_loadVar_mid w b1 0 t1 c1 d1 B1.range hu1 hd1 hi1
 simp only [results, hr]
 simp [Sem.run_bind, Sem.run_pure, h1, asAddr, e1]
theorem ld_op {P : Program} {w : World} {b : Nat} {cs : List Value} {op : Oper} {a : Act} {K : Act → World → Prop} {Q : Exit → Act → World → Prop} (ty : TypeId) (x : Operand) (ho : op.op = .load ty x)
 (hx : a.eval x = .pointer (some ⟨b, 0, none⟩)) (d : TypeDesc) (hc : Blk w b cs) (hu : P.underlying ty = some d) (hd : d.isRow = true) (hi : (P.info? ty).map (·.size) = some cs.length)
 (h : K (a.put op.dst (.agg cs.toArray)) w) : op.wp P a w K Q :=
 wp_load_mid ty x ho b 0 hx cs d hc.range hu hd hi h
theorem wdE_onh (a : Wd) : ∀ v ∈ wdE a, Value.oneCell' v = true := by
 intro v hv
 simp only [wdE, List.mem_cons, List.not_mem_nil, or_false] at hv
 rcases hv with rfl | rfl | rfl <;> rfl
set_option maxRecDepth 100000 in
set_option maxHeartbeats 1000000 in
theorem hp_stale {X : HX} (d : Hd) (hd : HdN d) (g : Wd) (w : World) : Calls Tryz.prog 87 #[.agg (hL (hR X d)).toArray, .agg (wdE g).toArray] w fun e w' => e = .returned (.bool (hpStale d g)) ∧ Ext w w' := by
 have hwr : IntKind.u32.wrap d.seq = d.seq := IntWalk.u32_in _ (by have := hd.seq; omega)
 clear hd
 obtain ⟨g1, g2, g3⟩ := g
 by_cases h1 : g2 = d.seq
 ·subst h1
  by_cases h2 : g3 = 0
  ·subst h2
   by_cases h3 : g1 < 0
   ·have h3b : decide (g1 < 0) = true := decide_eq_true h3
    have h3d : ¬ 0 ≤ g1 := by omega
    have HR := hid (show hpStale d (g1, d.seq, 0) = true by unfold hpStale; simp [h3d])
    rw [HR.out]
    go_enter Tryz.func87, Tryz.ntmps87
    go_upto_region 1 with fail
    generalize hV_ : World.alloc _ _ = V
    have HE_V := hid (show Ext w V by rw [← hV_]; exact exP)
    have HB_bx := hid (show Blk V (w.heap.size) (hL (hR X d)) by rw [← hV_]; exact bkP)
    have HB_bw := hid (show Blk V (w.heap.size + 1) (wdE (g1, d.seq, 0)) by rw [← hV_]; exact bkP)
    clear hV_
    obtain ⟨bw, hg_bw⟩ : ∃ g, g = w.heap.size + 1 := ⟨_, rfl⟩
    simp only [← hg_bw] at HB_bw ⊢
    obtain ⟨bx, hg_bx⟩ : ∃ g, g = w.heap.size := ⟨_, rfl⟩
    simp only [← hg_bx] at HB_bx ⊢
    have HN_V := hid (show bx = w.heap.size ∧ bw = w.heap.size + 1 ∧ bw < V.heap.size from ⟨hg_bx, hg_bw, HB_bw.out.1⟩)
    clear hg_bx hg_bw
    have x_seq : V.cell? ⟨bx, 6, none⟩ = some (.int .i64 d.seq) := HB_bx.out.2.2 6 _ rfl
    have x_g := HB_bx.out.1
    have w0 : V.cell? ⟨bw, 0, none⟩ = some (.int .i64 g1) := HB_bw.out.2.2 0 _ rfl
    have w1 : V.cell? ⟨bw, 1, none⟩ = some (.int .u32 d.seq) := HB_bw.out.2.2 1 _ rfl
    have w2 : V.cell? ⟨bw, 2, none⟩ = some (.int .u32 0) := HB_bw.out.2.2 2 _ rfl
    have wg := HB_bw.out.1
    go_wp2_with fail
    go_ret
    exact ⟨rfl, HE_V.out⟩
   ·have h3b : decide (g1 < 0) = false := decide_eq_false h3
    by_cases h4 : 2 < g1
    ·have h4b : decide ((2 : Int) < g1) = true := decide_eq_true h4
     have h4d : ¬ g1 ≤ 2 := by omega
     have HR := hid (show hpStale d (g1, d.seq, 0) = true by unfold hpStale; simp [h4d])
     rw [HR.out]
     go_enter Tryz.func87, Tryz.ntmps87
     go_upto_region 1 with fail
     generalize hV_ : World.alloc _ _ = V
     have HE_V := hid (show Ext w V by rw [← hV_]; exact exP)
     have HB_bx := hid (show Blk V (w.heap.size) (hL (hR X d)) by rw [← hV_]; exact bkP)
     have HB_bw := hid (show Blk V (w.heap.size + 1) (wdE (g1, d.seq, 0)) by rw [← hV_]; exact bkP)
     clear hV_
     obtain ⟨bw, hg_bw⟩ : ∃ g, g = w.heap.size + 1 := ⟨_, rfl⟩
     simp only [← hg_bw] at HB_bw ⊢
     obtain ⟨bx, hg_bx⟩ : ∃ g, g = w.heap.size := ⟨_, rfl⟩
     simp only [← hg_bx] at HB_bx ⊢
     have HN_V := hid (show bx = w.heap.size ∧ bw = w.heap.size + 1 ∧ bw < V.heap.size from ⟨hg_bx, hg_bw, HB_bw.out.1⟩)
     clear hg_bx hg_bw
     have x_seq : V.cell? ⟨bx, 6, none⟩ = some (.int .i64 d.seq) := HB_bx.out.2.2 6 _ rfl
     have x_g := HB_bx.out.1
     have w0 : V.cell? ⟨bw, 0, none⟩ = some (.int .i64 g1) := HB_bw.out.2.2 0 _ rfl
     have w1 : V.cell? ⟨bw, 1, none⟩ = some (.int .u32 d.seq) := HB_bw.out.2.2 1 _ rfl
     have w2 : V.cell? ⟨bw, 2, none⟩ = some (.int .u32 0) := HB_bw.out.2.2 2 _ rfl
     have wg := HB_bw.out.1
     go_wp2_with fail
     go_ret
     exact ⟨rfl, HE_V.out⟩
    ·have h4b : decide ((2 : Int) < g1) = false := decide_eq_false h4
     have h4d : g1 ≤ 2 := by omega
     have h3d : 0 ≤ g1 := by omega
     have HR := hid (show hpStale d (g1, d.seq, 0) = false by unfold hpStale; simp [h3d, h4d])
     rw [HR.out]
     go_enter Tryz.func87, Tryz.ntmps87
     go_upto_region 1 with fail
     generalize hV_ : World.alloc _ _ = V
     have HE_V := hid (show Ext w V by rw [← hV_]; exact exP)
     have HB_bx := hid (show Blk V (w.heap.size) (hL (hR X d)) by rw [← hV_]; exact bkP)
     have HB_bw := hid (show Blk V (w.heap.size + 1) (wdE (g1, d.seq, 0)) by rw [← hV_]; exact bkP)
     clear hV_
     obtain ⟨bw, hg_bw⟩ : ∃ g, g = w.heap.size + 1 := ⟨_, rfl⟩
     simp only [← hg_bw] at HB_bw ⊢
     obtain ⟨bx, hg_bx⟩ : ∃ g, g = w.heap.size := ⟨_, rfl⟩
     simp only [← hg_bx] at HB_bx ⊢
     have HN_V := hid (show bx = w.heap.size ∧ bw = w.heap.size + 1 ∧ bw < V.heap.size from ⟨hg_bx, hg_bw, HB_bw.out.1⟩)
     clear hg_bx hg_bw
     have x_seq : V.cell? ⟨bx, 6, none⟩ = some (.int .i64 d.seq) := HB_bx.out.2.2 6 _ rfl
     have x_g := HB_bx.out.1
     have w0 : V.cell? ⟨bw, 0, none⟩ = some (.int .i64 g1) := HB_bw.out.2.2 0 _ rfl
     have w1 : V.cell? ⟨bw, 1, none⟩ = some (.int .u32 d.seq) := HB_bw.out.2.2 1 _ rfl
     have w2 : V.cell? ⟨bw, 2, none⟩ = some (.int .u32 0) := HB_bw.out.2.2 2 _ rfl
     have wg := HB_bw.out.1
     go_wp2_with fail
     go_ret
     exact ⟨rfl, HE_V.out⟩
  ·have h2b : decide (g3 = 0) = false := decide_eq_false h2
   have HR := hid (show hpStale d (g1, d.seq, g3) = true by unfold hpStale; simp [h2])
   rw [HR.out]
   go_enter Tryz.func87, Tryz.ntmps87
   go_upto_region 1 with fail
   generalize hV_ : World.alloc _ _ = V
   have HE_V := hid (show Ext w V by rw [← hV_]; exact exP)
   have HB_bx := hid (show Blk V (w.heap.size) (hL (hR X d)) by rw [← hV_]; exact bkP)
   have HB_bw := hid (show Blk V (w.heap.size + 1) (wdE (g1, d.seq, g3)) by rw [← hV_]; exact bkP)
   clear hV_
   obtain ⟨bw, hg_bw⟩ : ∃ g, g = w.heap.size + 1 := ⟨_, rfl⟩
   simp only [← hg_bw] at HB_bw ⊢
   obtain ⟨bx, hg_bx⟩ : ∃ g, g = w.heap.size := ⟨_, rfl⟩
   simp only [← hg_bx] at HB_bx ⊢
   have HN_V := hid (show bx = w.heap.size ∧ bw = w.heap.size + 1 ∧ bw < V.heap.size from ⟨hg_bx, hg_bw, HB_bw.out.1⟩)
   clear hg_bx hg_bw
   have x_seq : V.cell? ⟨bx, 6, none⟩ = some (.int .i64 d.seq) := HB_bx.out.2.2 6 _ rfl
   have x_g := HB_bx.out.1
   have w0 : V.cell? ⟨bw, 0, none⟩ = some (.int .i64 g1) := HB_bw.out.2.2 0 _ rfl
   have w1 : V.cell? ⟨bw, 1, none⟩ = some (.int .u32 d.seq) := HB_bw.out.2.2 1 _ rfl
   have w2 : V.cell? ⟨bw, 2, none⟩ = some (.int .u32 g3) := HB_bw.out.2.2 2 _ rfl
   have wg := HB_bw.out.1
   go_wp2_with fail
   go_ret
   exact ⟨rfl, HE_V.out⟩
 ·have h1b : decide (g2 = d.seq) = false := decide_eq_false h1
  have HR := hid (show hpStale d (g1, g2, g3) = true by unfold hpStale; simp [h1])
  rw [HR.out]
  go_enter Tryz.func87, Tryz.ntmps87
  go_upto_region 1 with fail
  generalize hV_ : World.alloc _ _ = V
  have HE_V := hid (show Ext w V by rw [← hV_]; exact exP)
  have HB_bx := hid (show Blk V (w.heap.size) (hL (hR X d)) by rw [← hV_]; exact bkP)
  have HB_bw := hid (show Blk V (w.heap.size + 1) (wdE (g1, g2, g3)) by rw [← hV_]; exact bkP)
  clear hV_
  obtain ⟨bw, hg_bw⟩ : ∃ g, g = w.heap.size + 1 := ⟨_, rfl⟩
  simp only [← hg_bw] at HB_bw ⊢
  obtain ⟨bx, hg_bx⟩ : ∃ g, g = w.heap.size := ⟨_, rfl⟩
  simp only [← hg_bx] at HB_bx ⊢
  have HN_V := hid (show bx = w.heap.size ∧ bw = w.heap.size + 1 ∧ bw < V.heap.size from ⟨hg_bx, hg_bw, HB_bw.out.1⟩)
  clear hg_bx hg_bw
  have x_seq : V.cell? ⟨bx, 6, none⟩ = some (.int .i64 d.seq) := HB_bx.out.2.2 6 _ rfl
  have x_g := HB_bx.out.1
  have w0 : V.cell? ⟨bw, 0, none⟩ = some (.int .i64 g1) := HB_bw.out.2.2 0 _ rfl
  have w1 : V.cell? ⟨bw, 1, none⟩ = some (.int .u32 g2) := HB_bw.out.2.2 1 _ rfl
  have w2 : V.cell? ⟨bw, 2, none⟩ = some (.int .u32 g3) := HB_bw.out.2.2 2 _ rfl
  have wg := HB_bw.out.1
  go_wp2_with fail
  go_ret
  exact ⟨rfl, HE_V.out⟩
set_option maxRecDepth 100000 in
set_option maxHeartbeats 1000000 in
theorem hp_place {X : HX} (d : Hd) (w : World) (he : Sl w 6 enE X.es d.es) (hi : d.i < d.es.length) : Calls Tryz.prog 149 #[.agg (hL (hR X d)).toArray] w fun e w' => e = .returned (.int .i64 d.cur.loc) ∧ Ext w w' := by
 obtain ⟨eb, eo, ec, n, hn, hv, heb, hlt, hcells⟩ := cur_at he hi
 have HC := hid hcells
 have HVE := hid hv
 clear he hi hn hv heb hcells
 go_enter Tryz.func149, Tryz.ntmps149
 go_upto_region 1 with fail
 generalize hV_ : World.alloc _ _ = V
 have HE_V := hid (show Ext w V by rw [← hV_]; exact exP)
 have HB_bx := hid (show Blk V (w.heap.size) (hL (hR X d)) by rw [← hV_]; exact bkP)
 clear hV_
 obtain ⟨bx, hg_bx⟩ : ∃ g, g = w.heap.size := ⟨_, rfl⟩
 simp only [← hg_bx] at HB_bx ⊢
 have HN_V := hid (show bx = w.heap.size ∧ bx < V.heap.size from ⟨hg_bx, HB_bx.out.1⟩)
 clear hg_bx
 have x_i : V.cell? ⟨bx, 12, none⟩ = some (.int .i64 (d.i : Int)) := HB_bx.out.2.2 12 _ rfl
 have x_g := HB_bx.out.1
 have x_es : V.cell? ⟨bx, 11, none⟩ = some (.slice (some ⟨eb, eo, none⟩) n ec) := by rw [← HVE.out]; exact HB_bx.out.2.2 11 _ rfl
 obtain ⟨c_g, c_loc, -, -, -, -, -⟩ := HC.out V HE_V.out
 go_wp2_with fail
 go_ret
 exact ⟨rfl, HE_V.out⟩
set_option maxRecDepth 100000 in
set_option maxHeartbeats 1000000 in
theorem hp_plain {X : HX} (d : Hd) (w : World) (he : Sl w 6 enE X.es d.es) (hi : d.i < d.es.length) : Calls Tryz.prog 150 #[.agg (hL (hR X d)).toArray] w fun e w' => e = .returned (.agg (wdE (enOld d.cur)).toArray) ∧ Ext w w' := by
 obtain ⟨eb, eo, ec, n, hn, hv, heb, hlt, hcells⟩ := cur_at he hi
 have HC := hid hcells
 have HVE := hid hv
 clear he hi hn hv heb hcells
 go_enter Tryz.func150, Tryz.ntmps150
 go_upto_region 1 with fail
 generalize hV_ : World.alloc _ _ = V
 have HE_V := hid (show Ext w V by rw [← hV_]; exact exP)
 have HB_bx := hid (show Blk V (w.heap.size) (hL (hR X d)) by rw [← hV_]; exact bkP)
 have HB_bv := hid (show Blk V (w.heap.size + 1) [.int .i64 0, .int .u32 0, .int .u32 0] by rw [← hV_]; exact bkP)
 clear hV_
 obtain ⟨bv, hg_bv⟩ : ∃ g, g = w.heap.size + 1 := ⟨_, rfl⟩
 simp only [← hg_bv] at HB_bv ⊢
 obtain ⟨bx, hg_bx⟩ : ∃ g, g = w.heap.size := ⟨_, rfl⟩
 simp only [← hg_bx] at HB_bx ⊢
 have HN_V := hid (show bx = w.heap.size ∧ bv = w.heap.size + 1 ∧ bv < V.heap.size from ⟨hg_bx, hg_bv, HB_bv.out.1⟩)
 clear hg_bx hg_bv
 have x_i : V.cell? ⟨bx, 12, none⟩ = some (.int .i64 (d.i : Int)) := HB_bx.out.2.2 12 _ rfl
 have x_g := HB_bx.out.1
 have x_es : V.cell? ⟨bx, 11, none⟩ = some (.slice (some ⟨eb, eo, none⟩) n ec) := by rw [← HVE.out]; exact HB_bx.out.2.2 11 _ rfl
 obtain ⟨c_g, -, c_val, c_ver, c_ref, -, -⟩ := HC.out V HE_V.out
 go_wp2_with (refine st_blk rfl 44 _ _ rfl rfl (cs := wdE (enOld d.cur)) rfl HB_bv.out rfl Tryz.wInfo (wdE_onh _) ?_; intro W1 hb1 hg1)
 exact bodyPost_ret (res1 Tryz.results150 rfl hb1 Tryz.underlying44 rfl Tryz.wInfo) rfl ⟨rfl, HE_V.out.grl hg1 (by have h1 := HN_V.out; simp; omega)⟩
end Go.Proofs.YtiacdohaiidehaaGreatDoor
