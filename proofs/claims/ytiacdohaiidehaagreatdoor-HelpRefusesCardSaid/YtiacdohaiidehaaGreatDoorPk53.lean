/- Law 20: the walk of HelpRefuses. HelpRefuses (simulcastlaw20) is proved: New rejects invalid layouts and references, and Status and Depth return zero values for other codes: the law returns true for every input, and its arguments read afterwards as they read before. The listed table layout.sizes is tied to the program's text by the given tie. No other condition. -/
import Derived.Test.YtiacdohaiidehaaGreatDoorPk52
import Derived.Test.YtiacdohaiidehaaGreatDoorCards
import Derived.Test.YtiacdohaiidehaaGreatDoorTie
namespace Go.Proofs.YtiacdohaiidehaaGreatDoor
set_option linter.unusedSimpArgs false
set_option linter.unusedVariables false
open Go.RowKit Go.Maps
theorem place_zero (t c b who : Int) : (placeN t c b who).2 = 0 ↔ (placeN t c b who).1 < 0 := by
 unfold placeN
 by_cases h9 : 9 ≤ who
 ·simp only [h9, if_true]
  split
  ·simp
  ·rename_i h; simp [h]
 ·simp only [h9, if_false]
  split
  ·simp
  ·rename_i h; simp [h]
theorem hn_one (t c b : Int) (dur : Bool) (r : Int) : (hR (hxN t c b dur) (hpNew t c b r)).One := hR_one ⟨rfl, rfl, rfl⟩ _
theorem new_out (t c b ref : Int) (dur : Bool) (h0 : 0 ≤ ref) (h1 : ref ≤ 4294967295) (w : World) (hs : Szs w) : Calls Tryz.prog 8 #[.agg #[.int .i64 t, .int .i64 c, .int .i64 b], .int .u32 ref, .bool dur] w fun e w' => e = .returned (if checkN t c b ≠ 0 then .tuple #[.nilIface, .int .i64 1] else if (whoN ref).1 = 0 ∨ (placeN t c b (whoN ref).1).1 < 0 then .tuple #[.nilIface, .int .i64 3] else .tuple #[.iface hpT (hvN t c b dur ref), .int .i64 0]) ∧ Ext w w' := hp_New t c b ref dur h0 h1 w hs
theorem stat_new (t c b ref : Int) (dur : Bool) (w : World) : Calls Tryz.prog 13 #[.iface hpT (hvN t c b dur ref)] w fun e w' => e = .returned (.tuple #[.int .i64 0, .bool false]) ∧ Ext w w' := hp_Status _ (hn_one t c b dur ref) w
theorem depth_new (t c b ref : Int) (dur : Bool) (w : World) : Calls Tryz.prog 15 #[.iface hpT (hvN t c b dur ref)] w fun e w' => e = .returned (.int .i64 0) ∧ Ext w w' := hp_Depth_leaf _ (hn_one t c b dur ref) rfl w
set_option maxRecDepth 100000 in
set_option maxHeartbeats 1000000 in
theorem hrefuses_a (t c b ref : Int) (dur : Bool) (h0 : 0 ≤ ref) (h1 : ref ≤ 4294967295) (w : World) (hs : Szs w) (hc : checkN t c b ≠ 0) :
 Calls Tryz.prog 4 #[.agg #[.int .i64 t, .int .i64 c, .int .i64 b], .int .u32 ref, .bool dur] w fun e w' => e = .returned (.bool true) ∧ Ext w w' := by
 have HS := hid hs
 have HRf := hid (And.intro h0 h1)
 clear hs h0 h1
 have HNew := hid (fun (W : World) (hS : Szs W) => new_out t c b ref dur HRf.out.1 HRf.out.2 W hS)
 rw [if_pos hc] at HNew
 have hcb : (checkN t c b != 0) = true := bne_iff_ne.2 hc
 have hcd : decide (checkN t c b = 0) = false := decide_eq_false hc
 have hen := eq_nil_nil
 clear hc
 go_enter Tryz.func4, Tryz.ntmps4
 go_wp2_with fail
 generalize hV_ : World.alloc _ _ = V
 have HE_V := hid (show Ext w V by rw [← hV_]; exact exP)
 have HB_bx := hid (show Blk V (w.heap.size) [.int .i64 t, .int .i64 c, .int .i64 b] by rw [← hV_]; exact bkP)
 clear hV_
 obtain ⟨bx, hg_bx⟩ : ∃ g, g = w.heap.size := ⟨_, rfl⟩
 simp only [← hg_bx] at HB_bx ⊢
 have HN_V := hid (show bx = w.heap.size ∧ bx < V.heap.size from ⟨hg_bx, HB_bx.out.1⟩)
 clear hg_bx
 refine (awake20_any (HS.out.of HE_V.out)).mono ?_
 rintro e w1 ⟨rfl, he⟩
 have HE1 := hid (HE_V.out.trans he)
 have HX1 := hid (HB_bx.out.of he)
 clear he
 have h0 := (HX1.out).2.2 0 _ rfl
 have h1 := (HX1.out).2.2 1 _ rfl
 have h2 := (HX1.out).2.2 2 _ rfl
 have hf := (HX1.out).2.1
 have hg := (HX1.out).1
 go_wp2_with fail
 refine (HNew.out w1 (HS.out.of HE1.out)).mono ?_
 rintro e w2 ⟨rfl, he⟩
 have HE2 := hid (HE1.out.trans he)
 have HX2 := hid (HX1.out.of he)
 clear he h0 h1 h2 hf hg
 go_wp2_with fail
 refine (hp_Status_nil w2).mono ?_
 rintro e w3 ⟨rfl, he⟩
 have HE3 := hid (HE2.out.trans he)
 have HX3 := hid (HX2.out.of he)
 clear he
 go_wp2_with fail
 refine (hp_Depth_nil w3).mono ?_
 rintro e w4 ⟨rfl, he⟩
 have HE4 := hid (HE3.out.trans he)
 have HX4 := hid (HX3.out.of he)
 clear he
 have h0 := (HX4.out).2.2 0 _ rfl
 have h1 := (HX4.out).2.2 1 _ rfl
 have h2 := (HX4.out).2.2 2 _ rfl
 have hf := (HX4.out).2.1
 have hg := (HX4.out).1
 go_wp2_with fail
 refine (check_any t c b w4 (HS.out.of HE4.out)).mono ?_
 rintro e w5 ⟨rfl, he_⟩
 have he : Ext w4 w5 := he_
 have HE5 := hid (HE4.out.trans he)
 have HX5 := hid (HX4.out.of he)
 clear he he_ h0 h1 h2 hf hg
 go_wp2_with fail
 go_ret
 exact ⟨rfl, HE5.out.trans (by exact exP)⟩
set_option maxRecDepth 100000 in
set_option maxHeartbeats 1000000 in
theorem hrefuses_b (t c b ref : Int) (dur : Bool) (h0 : 0 ≤ ref) (h1 : ref ≤ 4294967295) (w : World) (hs : Szs w) (hc : checkN t c b = 0) (hq0 : (whoN ref).1 = 0) :
 Calls Tryz.prog 4 #[.agg #[.int .i64 t, .int .i64 c, .int .i64 b], .int .u32 ref, .bool dur] w fun e w' => e = .returned (.bool true) ∧ Ext w w' := by
 have HS := hid hs
 have HRf := hid (And.intro h0 h1)
 clear hs h0 h1
 have HCk := hid hc
 obtain ⟨⟨q, sq⟩, hq⟩ : ∃ x, x = whoN ref := ⟨_, rfl⟩
 obtain ⟨⟨p1, p2⟩, hp⟩ : ∃ x, x = placeN t c b q := ⟨_, rfl⟩
 have HQ := hid hq.symm
 have HP := hid hp.symm
 have HQb := hid (show -9223372036854775808 ≤ q ∧ q ≤ 9223372036854775807 by
  have h : q = (whoN ref).1 := by rw [← hq]
  rw [h]; unfold whoN; split <;> simp <;> (have := HRf.out; omega))
 have hpz : p2 = 0 ↔ p1 < 0 := by have h := place_zero t c b q; rw [← hp] at h; exact h
 have HNew := hid (fun (W : World) (hS : Szs W) => new_out t c b ref dur HRf.out.1 HRf.out.2 W hS)
 rw [if_neg (fun h => h hc), if_pos (.inl hq0)] at HNew
 rw [← hq] at hq0
 dsimp only at hq0
 have hqb : (q == 0) = true := beq_iff_eq.2 hq0
 have hqd : decide (q = 0) = true := decide_eq_true hq0
 have hen := eq_nil_nil
 clear hc hq hp hpz hq0
 go_enter Tryz.func4, Tryz.ntmps4
 go_wp2_with fail
 generalize hV_ : World.alloc _ _ = V
 have HE_V := hid (show Ext w V by rw [← hV_]; exact exP)
 have HB_bx := hid (show Blk V (w.heap.size) [.int .i64 t, .int .i64 c, .int .i64 b] by rw [← hV_]; exact bkP)
 clear hV_
 obtain ⟨bx, hg_bx⟩ : ∃ g, g = w.heap.size := ⟨_, rfl⟩
 simp only [← hg_bx] at HB_bx ⊢
 have HN_V := hid (show bx = w.heap.size ∧ bx < V.heap.size from ⟨hg_bx, HB_bx.out.1⟩)
 clear hg_bx
 refine (awake20_any (HS.out.of HE_V.out)).mono ?_
 rintro e w1 ⟨rfl, he⟩
 have HE1 := hid (HE_V.out.trans he)
 have HX1 := hid (HB_bx.out.of he)
 clear he
 have h0 := (HX1.out).2.2 0 _ rfl
 have h1 := (HX1.out).2.2 1 _ rfl
 have h2 := (HX1.out).2.2 2 _ rfl
 have hf := (HX1.out).2.1
 have hg := (HX1.out).1
 go_wp2_with fail
 refine (HNew.out w1 (HS.out.of HE1.out)).mono ?_
 rintro e w2 ⟨rfl, he⟩
 have HE2 := hid (HE1.out.trans he)
 have HX2 := hid (HX1.out.of he)
 clear he h0 h1 h2 hf hg
 go_wp2_with fail
 refine (hp_Status_nil w2).mono ?_
 rintro e w3 ⟨rfl, he⟩
 have HE3 := hid (HE2.out.trans he)
 have HX3 := hid (HX2.out.of he)
 clear he
 go_wp2_with fail
 refine (hp_Depth_nil w3).mono ?_
 rintro e w4 ⟨rfl, he⟩
 have HE4 := hid (HE3.out.trans he)
 have HX4 := hid (HX3.out.of he)
 clear he
 have h0 := (HX4.out).2.2 0 _ rfl
 have h1 := (HX4.out).2.2 1 _ rfl
 have h2 := (HX4.out).2.2 2 _ rfl
 have hf := (HX4.out).2.1
 have hg := (HX4.out).1
 go_wp2_with fail
 refine (check_any t c b w4 (HS.out.of HE4.out)).mono ?_
 rintro e w5 ⟨rfl, he_⟩
 have he : Ext w4 w5 := he_
 have HE5 := hid (HE4.out.trans he)
 have HX5 := hid (HX4.out.of he)
 clear he he_ h0 h1 h2 hf hg
 rw [HCk.out]
 go_wp2_with fail
 refine (who_any ref HRf.out.1 HRf.out.2 w5).mono ?_
 rintro e w6 ⟨rfl, he_⟩
 have he : Ext w5 w6 := he_
 rw [HQ.out]
 have HE6 := hid (HE5.out.trans he)
 have HX6 := hid (HX5.out.of he)
 clear he he_
 have h0 := (HX6.out).2.2 0 _ rfl
 have h1 := (HX6.out).2.2 1 _ rfl
 have h2 := (HX6.out).2.2 2 _ rfl
 have hf := (HX6.out).2.1
 have hg := (HX6.out).1
 go_wp2_with fail
 refine (place_any t c b q HQb.out.1 HQb.out.2 w6 (HS.out.of HE6.out)).mono ?_
 rintro e w7 ⟨rfl, he_⟩
 have he : Ext w6 w7 := he_
 rw [HP.out]
 have HE7 := hid (HE6.out.trans he)
 clear he he_ h0 h1 h2 hf hg
 go_wp2_with fail
 go_ret
 exact ⟨rfl, HE7.out.trans (by exact exP)⟩
set_option maxRecDepth 100000 in
set_option maxHeartbeats 1000000 in
theorem hrefuses_c (t c b ref : Int) (dur : Bool) (h0 : 0 ≤ ref) (h1 : ref ≤ 4294967295) (w : World) (hs : Szs w) (hc : checkN t c b = 0) (hq0 : (whoN ref).1 ≠ 0) (hp0 : (placeN t c b (whoN ref).1).1 < 0) :
 Calls Tryz.prog 4 #[.agg #[.int .i64 t, .int .i64 c, .int .i64 b], .int .u32 ref, .bool dur] w fun e w' => e = .returned (.bool true) ∧ Ext w w' := by
 have HS := hid hs
 have HRf := hid (And.intro h0 h1)
 clear hs h0 h1
 have HCk := hid hc
 obtain ⟨⟨q, sq⟩, hq⟩ : ∃ x, x = whoN ref := ⟨_, rfl⟩
 obtain ⟨⟨p1, p2⟩, hp⟩ : ∃ x, x = placeN t c b q := ⟨_, rfl⟩
 have HQ := hid hq.symm
 have HP := hid hp.symm
 have HQb := hid (show -9223372036854775808 ≤ q ∧ q ≤ 9223372036854775807 by
  have h : q = (whoN ref).1 := by rw [← hq]
  rw [h]; unfold whoN; split <;> simp <;> (have := HRf.out; omega))
 have hpz : p2 = 0 ↔ p1 < 0 := by have h := place_zero t c b q; rw [← hp] at h; exact h
 have HNew := hid (fun (W : World) (hS : Szs W) => new_out t c b ref dur HRf.out.1 HRf.out.2 W hS)
 rw [if_neg (fun h => h hc), if_pos (.inr hp0)] at HNew
 rw [← hq] at hq0 hp0
 dsimp only at hq0 hp0
 rw [← hp] at hp0
 have hp2 : p2 = 0 := hpz.2 hp0
 have hqb : (q == 0) = false := beq_eq_false_iff_ne.2 hq0
 have hqd : decide (q = 0) = false := decide_eq_false hq0
 have hpb : (p2 == 0) = true := beq_iff_eq.2 hp2
 have hpd : decide (p2 = 0) = true := decide_eq_true hp2
 clear hp0 hp2
 have hen := eq_nil_nil
 clear hc hq hp hpz hq0
 go_enter Tryz.func4, Tryz.ntmps4
 go_wp2_with fail
 generalize hV_ : World.alloc _ _ = V
 have HE_V := hid (show Ext w V by rw [← hV_]; exact exP)
 have HB_bx := hid (show Blk V (w.heap.size) [.int .i64 t, .int .i64 c, .int .i64 b] by rw [← hV_]; exact bkP)
 clear hV_
 obtain ⟨bx, hg_bx⟩ : ∃ g, g = w.heap.size := ⟨_, rfl⟩
 simp only [← hg_bx] at HB_bx ⊢
 have HN_V := hid (show bx = w.heap.size ∧ bx < V.heap.size from ⟨hg_bx, HB_bx.out.1⟩)
 clear hg_bx
 refine (awake20_any (HS.out.of HE_V.out)).mono ?_
 rintro e w1 ⟨rfl, he⟩
 have HE1 := hid (HE_V.out.trans he)
 have HX1 := hid (HB_bx.out.of he)
 clear he
 have h0 := (HX1.out).2.2 0 _ rfl
 have h1 := (HX1.out).2.2 1 _ rfl
 have h2 := (HX1.out).2.2 2 _ rfl
 have hf := (HX1.out).2.1
 have hg := (HX1.out).1
 go_wp2_with fail
 refine (HNew.out w1 (HS.out.of HE1.out)).mono ?_
 rintro e w2 ⟨rfl, he⟩
 have HE2 := hid (HE1.out.trans he)
 have HX2 := hid (HX1.out.of he)
 clear he h0 h1 h2 hf hg
 go_wp2_with fail
 refine (hp_Status_nil w2).mono ?_
 rintro e w3 ⟨rfl, he⟩
 have HE3 := hid (HE2.out.trans he)
 have HX3 := hid (HX2.out.of he)
 clear he
 go_wp2_with fail
 refine (hp_Depth_nil w3).mono ?_
 rintro e w4 ⟨rfl, he⟩
 have HE4 := hid (HE3.out.trans he)
 have HX4 := hid (HX3.out.of he)
 clear he
 have h0 := (HX4.out).2.2 0 _ rfl
 have h1 := (HX4.out).2.2 1 _ rfl
 have h2 := (HX4.out).2.2 2 _ rfl
 have hf := (HX4.out).2.1
 have hg := (HX4.out).1
 go_wp2_with fail
 refine (check_any t c b w4 (HS.out.of HE4.out)).mono ?_
 rintro e w5 ⟨rfl, he_⟩
 have he : Ext w4 w5 := he_
 have HE5 := hid (HE4.out.trans he)
 have HX5 := hid (HX4.out.of he)
 clear he he_ h0 h1 h2 hf hg
 rw [HCk.out]
 go_wp2_with fail
 refine (who_any ref HRf.out.1 HRf.out.2 w5).mono ?_
 rintro e w6 ⟨rfl, he_⟩
 have he : Ext w5 w6 := he_
 rw [HQ.out]
 have HE6 := hid (HE5.out.trans he)
 have HX6 := hid (HX5.out.of he)
 clear he he_
 have h0 := (HX6.out).2.2 0 _ rfl
 have h1 := (HX6.out).2.2 1 _ rfl
 have h2 := (HX6.out).2.2 2 _ rfl
 have hf := (HX6.out).2.1
 have hg := (HX6.out).1
 go_wp2_with fail
 refine (place_any t c b q HQb.out.1 HQb.out.2 w6 (HS.out.of HE6.out)).mono ?_
 rintro e w7 ⟨rfl, he_⟩
 have he : Ext w6 w7 := he_
 rw [HP.out]
 have HE7 := hid (HE6.out.trans he)
 clear he he_ h0 h1 h2 hf hg
 go_wp2_with fail
 go_ret
 exact ⟨rfl, HE7.out.trans (by exact exP)⟩
set_option maxRecDepth 100000 in
set_option maxHeartbeats 1000000 in
theorem hrefuses_d (t c b ref : Int) (dur : Bool) (h0 : 0 ≤ ref) (h1 : ref ≤ 4294967295) (w : World) (hs : Szs w) (hc : checkN t c b = 0) (hq0 : (whoN ref).1 ≠ 0) (hp0 : ¬ (placeN t c b (whoN ref).1).1 < 0) :
 Calls Tryz.prog 4 #[.agg #[.int .i64 t, .int .i64 c, .int .i64 b], .int .u32 ref, .bool dur] w fun e w' => e = .returned (.bool true) ∧ Ext w w' := by
 have HS := hid hs
 have HRf := hid (And.intro h0 h1)
 clear hs h0 h1
 have HCk := hid hc
 obtain ⟨⟨q, sq⟩, hq⟩ : ∃ x, x = whoN ref := ⟨_, rfl⟩
 obtain ⟨⟨p1, p2⟩, hp⟩ : ∃ x, x = placeN t c b q := ⟨_, rfl⟩
 have HQ := hid hq.symm
 have HP := hid hp.symm
 have HQb := hid (show -9223372036854775808 ≤ q ∧ q ≤ 9223372036854775807 by
  have h : q = (whoN ref).1 := by rw [← hq]
  rw [h]; unfold whoN; split <;> simp <;> (have := HRf.out; omega))
 have hpz : p2 = 0 ↔ p1 < 0 := by have h := place_zero t c b q; rw [← hp] at h; exact h
 have HNew := hid (fun (W : World) (hS : Szs W) => new_out t c b ref dur HRf.out.1 HRf.out.2 W hS)
 rw [if_neg (fun h => h hc), if_neg (fun h => h.elim hq0 hp0)] at HNew
 have HSt := hid (fun (W : World) => stat_new t c b ref dur W)
 have HDp := hid (fun (W : World) => depth_new t c b ref dur W)
 obtain ⟨hv, hhv⟩ : ∃ v, v = hvN t c b dur ref := ⟨_, rfl⟩
 rw [← hhv] at HNew HSt HDp
 rw [← hq] at hq0 hp0
 dsimp only at hq0 hp0
 rw [← hp] at hp0
 have hp2 : ¬ p2 = 0 := fun h => hp0 (hpz.1 h)
 have hqb : (q == 0) = false := beq_eq_false_iff_ne.2 hq0
 have hqd : decide (q = 0) = false := decide_eq_false hq0
 have hpb : (p2 == 0) = false := beq_eq_false_iff_ne.2 hp2
 have hpd : decide (p2 = 0) = false := decide_eq_false hp2
 have hen := eq_code_nil
 clear hc hq hp hpz hq0 hp0 hp2 hhv
 go_enter Tryz.func4, Tryz.ntmps4
 go_wp2_with fail
 generalize hV_ : World.alloc _ _ = V
 have HE_V := hid (show Ext w V by rw [← hV_]; exact exP)
 have HB_bx := hid (show Blk V (w.heap.size) [.int .i64 t, .int .i64 c, .int .i64 b] by rw [← hV_]; exact bkP)
 clear hV_
 obtain ⟨bx, hg_bx⟩ : ∃ g, g = w.heap.size := ⟨_, rfl⟩
 simp only [← hg_bx] at HB_bx ⊢
 have HN_V := hid (show bx = w.heap.size ∧ bx < V.heap.size from ⟨hg_bx, HB_bx.out.1⟩)
 clear hg_bx
 refine (awake20_any (HS.out.of HE_V.out)).mono ?_
 rintro e w1 ⟨rfl, he⟩
 have HE1 := hid (HE_V.out.trans he)
 have HX1 := hid (HB_bx.out.of he)
 clear he
 have h0 := (HX1.out).2.2 0 _ rfl
 have h1 := (HX1.out).2.2 1 _ rfl
 have h2 := (HX1.out).2.2 2 _ rfl
 have hf := (HX1.out).2.1
 have hg := (HX1.out).1
 go_wp2_with fail
 refine (HNew.out w1 (HS.out.of HE1.out)).mono ?_
 rintro e w2 ⟨rfl, he⟩
 have HE2 := hid (HE1.out.trans he)
 have HX2 := hid (HX1.out.of he)
 clear he h0 h1 h2 hf hg
 go_wp2_with fail
 refine (hp_Status_nil w2).mono ?_
 rintro e w3 ⟨rfl, he⟩
 have HE3 := hid (HE2.out.trans he)
 have HX3 := hid (HX2.out.of he)
 clear he
 go_wp2_with fail
 refine (hp_Depth_nil w3).mono ?_
 rintro e w4 ⟨rfl, he⟩
 have HE4 := hid (HE3.out.trans he)
 have HX4 := hid (HX3.out.of he)
 clear he
 have h0 := (HX4.out).2.2 0 _ rfl
 have h1 := (HX4.out).2.2 1 _ rfl
 have h2 := (HX4.out).2.2 2 _ rfl
 have hf := (HX4.out).2.1
 have hg := (HX4.out).1
 go_wp2_with fail
 refine (check_any t c b w4 (HS.out.of HE4.out)).mono ?_
 rintro e w5 ⟨rfl, he_⟩
 have he : Ext w4 w5 := he_
 have HE5 := hid (HE4.out.trans he)
 have HX5 := hid (HX4.out.of he)
 clear he he_ h0 h1 h2 hf hg
 rw [HCk.out]
 go_wp2_with fail
 refine (who_any ref HRf.out.1 HRf.out.2 w5).mono ?_
 rintro e w6 ⟨rfl, he_⟩
 have he : Ext w5 w6 := he_
 rw [HQ.out]
 have HE6 := hid (HE5.out.trans he)
 have HX6 := hid (HX5.out.of he)
 clear he he_
 have h0 := (HX6.out).2.2 0 _ rfl
 have h1 := (HX6.out).2.2 1 _ rfl
 have h2 := (HX6.out).2.2 2 _ rfl
 have hf := (HX6.out).2.1
 have hg := (HX6.out).1
 go_wp2_with fail
 refine (place_any t c b q HQb.out.1 HQb.out.2 w6 (HS.out.of HE6.out)).mono ?_
 rintro e w7 ⟨rfl, he_⟩
 have he : Ext w6 w7 := he_
 rw [HP.out]
 have HE7 := hid (HE6.out.trans he)
 clear he he_ h0 h1 h2 hf hg
 go_wp2_with fail
 refine (HSt.out w7).mono ?_
 rintro e w8 ⟨rfl, he⟩
 have HE8 := hid (HE7.out.trans he)
 clear he
 go_wp2_with fail
 refine (HDp.out w8).mono ?_
 rintro e w9 ⟨rfl, he⟩
 have HE9 := hid (HE8.out.trans he)
 clear he
 go_wp2_with fail
 go_ret
 exact ⟨rfl, HE9.out.trans (by exact exP)⟩
theorem hrefuses_any (t c b ref : Int) (dur : Bool) (h0 : 0 ≤ ref) (h1 : ref ≤ 4294967295) (w : World) (hs : Szs w) : Calls Tryz.prog 4 #[.agg #[.int .i64 t, .int .i64 c, .int .i64 b], .int .u32 ref, .bool dur] w fun e w' => e = .returned (.bool true) ∧ Ext w w' := by
 by_cases hc : checkN t c b = 0
 ·by_cases hq : (whoN ref).1 = 0
  ·exact hrefuses_b t c b ref dur h0 h1 w hs hc hq
  ·by_cases hp : (placeN t c b (whoN ref).1).1 < 0
   ·exact hrefuses_c t c b ref dur h0 h1 w hs hc hq hp
   ·exact hrefuses_d t c b ref dur h0 h1 w hs hc hq hp
 ·exact hrefuses_a t c b ref dur h0 h1 w hs hc
open Go.ChangeShapes Go.WideShapes Go.ChangeAt Go.WideMaps Go.WideElems Go.RowKit Go.Joins
set_option maxRecDepth 100000 in
theorem helpRefuses_lifted (os : Os) (started : os.Started) (H : Type) (enc : TypeId × Value → H) :
 ReturnsInHanded {} Tryz.checked os 4 .any (fun w args => (Rows.helpRefusesSpec.pre enc Tryz.prog Tryz.f4 [] false w args ∧ laidMetH Tryz.prog layLaid w) ∧ sizedMet enc Tryz.prog Tryz.f4 (OpenSpec.ofChange Rows.helpRefusesSpec) false w args)
  (Rows.helpRefusesSpec.post enc Tryz.prog Tryz.f4 false true false false) := by
 refine returnsInHanded_of_change_and (C := Tryz.checked) (X := fun w _ => laidMetH Tryz.prog layLaid w) (fun _ _ _ hh h => h.of_heap hh) Tryz.own started (by kernel_rfl) Tryz.func4
  (ChangeSpec.witness_shaped (enc := enc) (C := Tryz.checked) (os := os) (X := fun w _ => laidMetH Tryz.prog layLaid w) false (World.doorLaid Tryz.prog 200 os) #[.agg #[.int .i64 0, .int .i64 0, .int .i64 0], .int .u32 0, .bool false] 8 rfl (World.shaped_of_RefB (by kernel_rfl) (by kernel_rfl)) (by kernel_rfl) (by kernel_rfl) (by kernel_rfl) (lay_met os _)) ?_
 intro W base args ds gs before hval0 hW _ _ hL _
 have hval : ∀ (j : Nat) t v, Tryz.f4.params[j]? = some t → args[j]? = some v → Value.okWide Tryz.prog W .any base t v := hval0
 have hW' := hW
 obtain ⟨p, q, hA0, hV, rfl, hfz, hnd⟩ := hW
 have hA : DataW.TrodAll enc Tryz.prog W 0 (fun _ => true) true Tryz.f4.params.toList args.toList ds p := hA0
 rw [Tryz.params4] at hA hval
 obtain ⟨v0, v1, v2, d0, d1, d2, p0, p1, p2, rfl, rfl, rfl, h0, h1, h2⟩ := trodAll_three hA
 obtain ⟨rfl, rfl⟩ := trodVars_none hV
 obtain ⟨lt, lc, lb, rfl, _, _, _⟩ := open_lay (hval 0 _ v0 rfl rfl) h0
 obtain ⟨rf, rfl, rfl, rfl, wrf⟩ := open_int Tryz.underlying22 (hval 1 _ v1 rfl rfl) h1
 obtain ⟨dur, rfl, rfl, rfl⟩ := open_bool Tryz.underlying4 (hval 2 _ v2 rfl rfl) h2
 have hs := szs_of_laid hL
 clear hA0 hval0
 refine (hrefuses_any lt lc lb rf dur (wf_u32 wrf).1 (wf_u32 wrf).2 W hs).mono fun e W' ⟨he, hE⟩ => ?_
 refine ⟨_, he, law_post _ Rows.helpRefusesSpec rfl rfl rfl hW' rfl rfl rfl ?_ hE⟩
 rw [Tryz.params4]
 intro t ht
 simp only [List.mem_cons, List.not_mem_nil, or_false] at ht
 rcases ht with rfl | rfl | rfl
 all_goals exact ⟨by kernel_rfl, of_decide_eq_true (by kernel_rfl)⟩
theorem helpRefuses_row : Rows.HelpRefusesSaid :=
 OpenClaim.holds_of_wide 4 Tryz.f4 rfl rfl rfl rfl rfl rfl rfl ⟨rfl, rfl, rfl, rfl, rfl⟩ rfl rfl rfl rfl rfl (by kernel_rfl) Tryz.func4 (by kernel_rfl)
  (of_decide_eq_true (by kernel_rfl)) (by unfold Func.isWrapper; first | (rw [if_pos (by decide +kernel)]; kernel_rfl) | (rw [if_neg (by decide +kernel)]; exact ⟨rfl, rfl⟩))
  (fun os started H enc _ => helpRefuses_lifted os started H enc)
theorem helpRefuses_card : Rows.HelpRefusesCardSaid :=
 Claim7.holds_tied_plain_at .later [] [.data] true Rows.helpRefusesCard.stood.harness true
  helpRefuses_row (fun _ h => by cases h) (by kernel_rfl) (fun _ h => by cases h) helpRefuses_row_tie rfl ⟨rfl, rfl⟩ (by kernel_rfl) rfl
  (fun f fn hf hfn => by
   obtain rfl : f = 4 := Option.some.inj ((show Tryz.prog.funcNamed "simulcast/simulcastlaw20.HelpRefuses" = some 4 by kernel_rfl).symm.trans hf) |>.symm
   obtain rfl : fn = Tryz.f4 := (Option.some.inj (Tryz.func4.symm.trans hfn)).symm
   exact ⟨by kernel_rfl, fun j t ht => by
    rw [Tryz.params4] at ht
    have hm : t ∈ [30, 22, 4] := by simpa using Array.mem_of_getElem? ht
    have hall : ([30, 22, 4].all fun u => !Tryz.prog.wantsStandIn u) = true := by kernel_rfl
    exact (show Tryz.prog.wantsStandIn t = false by simpa using List.all_eq_true.1 hall t hm)⟩)
  (by kernel_rfl)
#print axioms helpRefuses_card
end Go.Proofs.YtiacdohaiidehaaGreatDoor
