/- Walks of package help: known, foreign, found; word's Release. -/
import Derived.Test.YtiacdohaiidehaaGreatDoorPk33
namespace Go.Proofs.YtiacdohaiidehaaGreatDoor
set_option linter.unusedSimpArgs false
set_option linter.unusedVariables false
open Go.RowKit
theorem res2 {P : Program} {w : World} {fn : Func} {tmps : Array Value} {k1 k2 : Nat} {t1 : TypeId} {b1 : Nat} {c1 : List Value} {v2 : Value} {d1 : TypeDesc} (hr : fn.results = #[.cell k1 t1, .tmp k2])
 (h1 : tmps[k1]?.getD undef = .pointer (some ⟨b1, 0, none⟩)) (h2 : tmps[k2]?.getD undef = v2) (B1 : Blk w b1 c1) (hu1 : P.underlying t1 = some d1) (hd1 : d1.isRow = true) (hi1 : (P.info? t1).map (·.size) = some c1.length) :
 (results fn tmps).run P w = .ok (.tuple #[.agg c1.toArray, v2]) w := by
 have e1 := run_loadVar_mid w b1 0 t1 c1 d1 B1.range hu1 hd1 hi1
 subst h2
 simp only [results, hr]
 simp [Sem.run_bind, Sem.run_pure, h1, asAddr, e1]
set_option maxRecDepth 100000 in
set_option maxHeartbeats 1000000 in
theorem wrel_any (g1 g2 g3 v : Int) (wr : Bool) (h2 : 0 ≤ g2 ∧ g2 ≤ 4294967295) (h3 : 0 ≤ g3 ∧ g3 ≤ 4294967295) (w : World) : Calls Tryz.prog 177 #[.agg #[.int .i64 g1, .int .u32 g2, .int .u32 g3], .int .i64 v, .bool wr] w fun e w' => e = .returned (.tuple #[.agg (wdE (relN (g1, g2, g3) v wr).1).toArray, .int .i64 (relN (g1, g2, g3) v wr).2]) ∧ Ext w w' := by
 have H2 := hid h2
 have H3 := hid h3
 clear h2 h3
 by_cases hk : kindN g3 = 1
 ·have hkn : (kindN g3 = 1) = True := eq_true hk
  cases wr
  ·have HR := hid (show relN (g1, g2, g3) v false = ((g1, g2, 0), 0) by unfold relN; simp [hk])
   rw [HR.out]
   go_enter Tryz.func177, Tryz.ntmps177
   go_upto_region 1 with fail
   generalize hV_ : World.alloc _ _ = V
   have HE_V := hid (show Ext w V by rw [← hV_]; exact exP)
   have HB_bx := hid (show Blk V (w.heap.size) [.int .i64 g1, .int .u32 g2, .int .u32 g3] by rw [← hV_]; exact bkP)
   have HB_br := hid (show Blk V (w.heap.size + 1) [.int .i64 0, .int .u32 0, .int .u32 0] by rw [← hV_]; exact bkP)
   clear hV_
   obtain ⟨br, hg_br⟩ : ∃ g, g = w.heap.size + 1 := ⟨_, rfl⟩
   simp only [← hg_br] at HB_br ⊢
   obtain ⟨bx, hg_bx⟩ : ∃ g, g = w.heap.size := ⟨_, rfl⟩
   simp only [← hg_bx] at HB_bx ⊢
   have HN_V := hid (show bx = w.heap.size ∧ br = w.heap.size + 1 ∧ br < V.heap.size from ⟨hg_bx, hg_br, HB_br.out.1⟩)
   clear hg_bx hg_br
   have h0 := (HB_bx.out).2.2 0 _ rfl
   have h1 := (HB_bx.out).2.2 1 _ rfl
   have h2 := (HB_bx.out).2.2 2 _ rfl
   have hf := (HB_bx.out).2.1
   have hg := (HB_bx.out).1
   go_wp2_with fail
   refine (kind_any g1 g2 g3 H3.out.1 H3.out.2 V).mono ?_
   rintro e w1 ⟨rfl, hx_⟩
   have HE1 := hid (HE_V.out.trans hx_)
   have HX1 := hid (HB_bx.out.of hx_)
   have HR1 := hid (HB_br.out.of hx_)
   clear h0 h1 h2 hf hg hx_
   have h0 := (HX1.out).2.2 0 _ rfl
   have h1 := (HX1.out).2.2 1 _ rfl
   have h2 := (HX1.out).2.2 2 _ rfl
   have hf := (HX1.out).2.1
   have hg := (HX1.out).1
   have r0 := (HR1.out).2.2 0 _ rfl
   have r1 := (HR1.out).2.2 1 _ rfl
   have r2 := (HR1.out).2.2 2 _ rfl
   have rf := (HR1.out).2.1
   have rg := (HR1.out).1
   (repeat (first | go_values | go_skip | go_guarded | go_step | go_upon | (simp only [Int.not_lt, Int.not_le] at *; go_simp) | (go_ite <;> go_prune <;> (try go_simp))))
   generalize hZ_ : World.setCell _ _ _ = Z
   have HBZ := hid (show Blk Z br (wdE (g1, g2, 0)) by rw [← hZ_]; have h3 := HR1.out; exact bcP)
   have HEZ := hid (show Ext w Z by rw [← hZ_]; exact HE1.out.grl (show GrL [br] w1 _ by exact glP) (by have h1 := HN_V.out; simp; omega))
   clear hZ_
   exact bodyPost_ret (res2 (v2 := .int .i64 0) Tryz.results177 rfl rfl HBZ.out Tryz.underlying44 rfl Tryz.wInfo) rfl ⟨rfl, HEZ.out⟩
  ·by_cases hm : g2 = 4294967295
   ·have hmb : (g2 == 4294967295) = true := beq_iff_eq.2 hm
    have HM := hid hm
    have HR := hid (show relN (g1, g2, g3) v true = ((g1, g2, g3), 9) by unfold relN; simp [hk, hm])
    rw [HR.out]
    clear hm
    go_enter Tryz.func177, Tryz.ntmps177
    go_upto_region 1 with fail
    generalize hV_ : World.alloc _ _ = V
    have HE_V := hid (show Ext w V by rw [← hV_]; exact exP)
    have HB_bx := hid (show Blk V (w.heap.size) [.int .i64 g1, .int .u32 g2, .int .u32 g3] by rw [← hV_]; exact bkP)
    have HB_br := hid (show Blk V (w.heap.size + 1) [.int .i64 0, .int .u32 0, .int .u32 0] by rw [← hV_]; exact bkP)
    clear hV_
    obtain ⟨br, hg_br⟩ : ∃ g, g = w.heap.size + 1 := ⟨_, rfl⟩
    simp only [← hg_br] at HB_br ⊢
    obtain ⟨bx, hg_bx⟩ : ∃ g, g = w.heap.size := ⟨_, rfl⟩
    simp only [← hg_bx] at HB_bx ⊢
    have HN_V := hid (show bx = w.heap.size ∧ br = w.heap.size + 1 ∧ br < V.heap.size from ⟨hg_bx, hg_br, HB_br.out.1⟩)
    clear hg_bx hg_br
    have h0 := (HB_bx.out).2.2 0 _ rfl
    have h1 := (HB_bx.out).2.2 1 _ rfl
    have h2 := (HB_bx.out).2.2 2 _ rfl
    have hf := (HB_bx.out).2.1
    have hg := (HB_bx.out).1
    go_wp2_with fail
    refine (kind_any g1 g2 g3 H3.out.1 H3.out.2 V).mono ?_
    rintro e w1 ⟨rfl, hx_⟩
    have HE1 := hid (HE_V.out.trans hx_)
    have HX1 := hid (HB_bx.out.of hx_)
    have HR1 := hid (HB_br.out.of hx_)
    clear h0 h1 h2 hf hg hx_
    have h0 := (HX1.out).2.2 0 _ rfl
    have h1 := (HX1.out).2.2 1 _ rfl
    have h2 := (HX1.out).2.2 2 _ rfl
    have hf := (HX1.out).2.1
    have hg := (HX1.out).1
    have r0 := (HR1.out).2.2 0 _ rfl
    have r1 := (HR1.out).2.2 1 _ rfl
    have r2 := (HR1.out).2.2 2 _ rfl
    have rf := (HR1.out).2.1
    have rg := (HR1.out).1
    (repeat (first | go_values | go_skip | go_guarded | go_step | go_upon | (simp only [Int.not_lt, Int.not_le] at *; go_simp) | (go_ite <;> go_prune <;> (try go_simp))))
    generalize hZ_ : World.setCell _ _ _ = Z
    have HBZ := hid (show Blk Z br (wdE (g1, g2, g3)) by rw [← hZ_]; have h3 := HR1.out; exact bcP)
    have HEZ := hid (show Ext w Z by rw [← hZ_]; exact HE1.out.grl (show GrL [br] w1 _ by exact glP) (by have h1 := HN_V.out; simp; omega))
    clear hZ_
    exact bodyPost_ret (res2 (v2 := .int .i64 9) Tryz.results177 rfl rfl HBZ.out Tryz.underlying44 rfl Tryz.wInfo) rfl ⟨rfl, HEZ.out⟩
   ·have hmb : (g2 == 4294967295) = false := beq_eq_false_iff_ne.2 hm
    have hw4 : IntKind.u32.wrap (g2 + 1) = g2 + 1 := IntWalk.u32_in _ (by have := H2.out; omega)
    have hw5 : (g2 + 1) % 4294967296 = g2 + 1 := by have := H2.out; omega
    have HR := hid (show relN (g1, g2, g3) v true = ((v, g2 + 1, 0), 0) by unfold relN; simp [hk, hm])
    rw [HR.out]
    go_enter Tryz.func177, Tryz.ntmps177
    go_upto_region 1 with fail
    generalize hV_ : World.alloc _ _ = V
    have HE_V := hid (show Ext w V by rw [← hV_]; exact exP)
    have HB_bx := hid (show Blk V (w.heap.size) [.int .i64 g1, .int .u32 g2, .int .u32 g3] by rw [← hV_]; exact bkP)
    have HB_br := hid (show Blk V (w.heap.size + 1) [.int .i64 0, .int .u32 0, .int .u32 0] by rw [← hV_]; exact bkP)
    clear hV_
    obtain ⟨br, hg_br⟩ : ∃ g, g = w.heap.size + 1 := ⟨_, rfl⟩
    simp only [← hg_br] at HB_br ⊢
    obtain ⟨bx, hg_bx⟩ : ∃ g, g = w.heap.size := ⟨_, rfl⟩
    simp only [← hg_bx] at HB_bx ⊢
    have HN_V := hid (show bx = w.heap.size ∧ br = w.heap.size + 1 ∧ br < V.heap.size from ⟨hg_bx, hg_br, HB_br.out.1⟩)
    clear hg_bx hg_br
    have h0 := (HB_bx.out).2.2 0 _ rfl
    have h1 := (HB_bx.out).2.2 1 _ rfl
    have h2 := (HB_bx.out).2.2 2 _ rfl
    have hf := (HB_bx.out).2.1
    have hg := (HB_bx.out).1
    go_wp2_with fail
    refine (kind_any g1 g2 g3 H3.out.1 H3.out.2 V).mono ?_
    rintro e w1 ⟨rfl, hx_⟩
    have HE1 := hid (HE_V.out.trans hx_)
    have HX1 := hid (HB_bx.out.of hx_)
    have HR1 := hid (HB_br.out.of hx_)
    clear h0 h1 h2 hf hg hx_
    have h0 := (HX1.out).2.2 0 _ rfl
    have h1 := (HX1.out).2.2 1 _ rfl
    have h2 := (HX1.out).2.2 2 _ rfl
    have hf := (HX1.out).2.1
    have hg := (HX1.out).1
    have r0 := (HR1.out).2.2 0 _ rfl
    have r1 := (HR1.out).2.2 1 _ rfl
    have r2 := (HR1.out).2.2 2 _ rfl
    have rf := (HR1.out).2.1
    have rg := (HR1.out).1
    (repeat (first | go_values | go_skip | go_guarded | go_step | go_upon | (simp only [Int.not_lt, Int.not_le] at *; go_simp) | (go_ite <;> go_prune <;> (try go_simp))))
    generalize hZ_ : World.setCell _ _ _ = Z
    have HBZ := hid (show Blk Z br (wdE (v, g2 + 1, 0)) by rw [← hZ_]; have h3 := HR1.out; exact bcP)
    have HEZ := hid (show Ext w Z by rw [← hZ_]; exact HE1.out.grl (show GrL [br] w1 _ by exact glP) (by have h1 := HN_V.out; simp; omega))
    clear hZ_
    exact bodyPost_ret (res2 (v2 := .int .i64 0) Tryz.results177 rfl rfl HBZ.out Tryz.underlying44 rfl Tryz.wInfo) rfl ⟨rfl, HEZ.out⟩
 ·have hkb : (kindN g3 = 1) = False := eq_false hk
  have HR := hid (show relN (g1, g2, g3) v wr = ((g1, g2, g3), 13) by unfold relN; simp [hk])
  rw [HR.out]
  go_enter Tryz.func177, Tryz.ntmps177
  go_upto_region 1 with fail
  generalize hV_ : World.alloc _ _ = V
  have HE_V := hid (show Ext w V by rw [← hV_]; exact exP)
  have HB_bx := hid (show Blk V (w.heap.size) [.int .i64 g1, .int .u32 g2, .int .u32 g3] by rw [← hV_]; exact bkP)
  have HB_br := hid (show Blk V (w.heap.size + 1) [.int .i64 0, .int .u32 0, .int .u32 0] by rw [← hV_]; exact bkP)
  clear hV_
  obtain ⟨br, hg_br⟩ : ∃ g, g = w.heap.size + 1 := ⟨_, rfl⟩
  simp only [← hg_br] at HB_br ⊢
  obtain ⟨bx, hg_bx⟩ : ∃ g, g = w.heap.size := ⟨_, rfl⟩
  simp only [← hg_bx] at HB_bx ⊢
  have HN_V := hid (show bx = w.heap.size ∧ br = w.heap.size + 1 ∧ br < V.heap.size from ⟨hg_bx, hg_br, HB_br.out.1⟩)
  clear hg_bx hg_br
  have h0 := (HB_bx.out).2.2 0 _ rfl
  have h1 := (HB_bx.out).2.2 1 _ rfl
  have h2 := (HB_bx.out).2.2 2 _ rfl
  have hf := (HB_bx.out).2.1
  have hg := (HB_bx.out).1
  go_wp2_with fail
  refine (kind_any g1 g2 g3 H3.out.1 H3.out.2 V).mono ?_
  rintro e w1 ⟨rfl, hx_⟩
  have HE1 := hid (HE_V.out.trans hx_)
  have HX1 := hid (HB_bx.out.of hx_)
  have HR1 := hid (HB_br.out.of hx_)
  clear h0 h1 h2 hf hg hx_
  have h0 := (HX1.out).2.2 0 _ rfl
  have h1 := (HX1.out).2.2 1 _ rfl
  have h2 := (HX1.out).2.2 2 _ rfl
  have hf := (HX1.out).2.1
  have hg := (HX1.out).1
  have r0 := (HR1.out).2.2 0 _ rfl
  have r1 := (HR1.out).2.2 1 _ rfl
  have r2 := (HR1.out).2.2 2 _ rfl
  have rf := (HR1.out).2.1
  have rg := (HR1.out).1
  (repeat (first | go_values | go_skip | go_guarded | go_step | go_upon | (simp only [Int.not_lt, Int.not_le] at *; go_simp) | (go_ite <;> go_prune <;> (try go_simp))))
  generalize hZ_ : World.setCell _ _ _ = Z
  have HBZ := hid (show Blk Z br (wdE (g1, g2, g3)) by rw [← hZ_]; have h3 := HR1.out; exact bcP)
  have HEZ := hid (show Ext w Z by rw [← hZ_]; exact HE1.out.grl (show GrL [br] w1 _ by exact glP) (by have h1 := HN_V.out; simp; omega))
  clear hZ_
  exact bodyPost_ret (res2 (v2 := .int .i64 13) Tryz.results177 rfl rfl HBZ.out Tryz.underlying44 rfl Tryz.wInfo) rfl ⟨rfl, HEZ.out⟩
end Go.Proofs.YtiacdohaiidehaaGreatDoor
