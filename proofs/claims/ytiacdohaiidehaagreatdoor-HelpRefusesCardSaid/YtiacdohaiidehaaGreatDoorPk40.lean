/- Walks of package help: unpacked. -/
import Derived.Test.YtiacdohaiidehaaGreatDoorPk39
namespace Go.Proofs.YtiacdohaiidehaaGreatDoor
set_option linter.unusedSimpArgs false
set_option linter.unusedVariables false
open Go.RowKit
theorem drop3 {l : List Wd} {p : Nat} {x y z : Wd} (hx : l[p]? = some x) (hy : l[p + 1]? = some y) (hz : l[p + 2]? = some z) : l.drop p = x :: y :: z :: l.drop (p + 3) := by
 have e : ∀ {q : Nat} {u : Wd}, l[q]? = some u → l.drop q = u :: l.drop (q + 1) := by
  intro q u h
  obtain ⟨hq, he⟩ := List.getElem?_eq_some_iff.1 h
  rw [List.drop_eq_getElem_cons hq, he]
 rw [e hx, e hy, e hz]
def UnC (t c b : Int) (out : List En) (x y z : Wd) : Prop := unpackB x y z = true ∧ mayN t c b x.1 = true ∧ (∀ e, out.getLast? = some e → e.loc < x.1)
theorem hpUnp_go {t c b : Int} {l : List Wd} {p : Nat} {x y z : Wd} {out : List En} (hx : l[p]? = some x) (hy : l[p + 1]? = some y) (hz : l[p + 2]? = some z) (h : UnC t c b out x y z) : hpUnp t c b (l.drop p) out = hpUnp t c b (l.drop (p + 3)) (out ++ [unpackE x y z]) := by
 rw [drop3 hx hy hz, hpUnp]; exact if_pos h
theorem hpUnp_no {t c b : Int} {l : List Wd} {p : Nat} {x y z : Wd} {out : List En} (hx : l[p]? = some x) (hy : l[p + 1]? = some y) (hz : l[p + 2]? = some z) (h : ¬ UnC t c b out x y z) : hpUnp t c b (l.drop p) out = none := by
 rw [drop3 hx hy hz, hpUnp]; exact if_neg h
theorem hpUnp_end {t c b : Int} {l : List Wd} {out : List En} : hpUnp t c b (l.drop l.length) out = some out := by
 rw [List.drop_length]; rfl
theorem unE_ok {x y z : Wd} (hx : WdOk x) (hy : WdOk y) (hz : WdOk z) : EnOk (unpackE x y z) := ⟨hx.1.1, hx.1.2, hy.1.1, hy.1.2, hy.2.1.1, hy.2.1.2, hy.2.2.1, hy.2.2.2, hz.1.1, hz.1.2⟩
def UnPost (w : World) (o : Option (List En)) (e : Ending) (w' : World) : Prop := ∃ (a : Option Addr) (n c : Nat) (ok : Bool), e = .returned (.tuple #[.slice a n c, .bool ok]) ∧ Ext w w' ∧ match o with
 | none => ok = false
 | some l => ok = true ∧ Sl w' 6 enE (.slice a n c) l ∧ ∀ a', a = some a' → w.heap.size ≤ a'.block
theorem UnPost.no {w w' : World} {e : Ending} (a : Option Addr) (n c : Nat) (h : e = .returned (.tuple #[.slice a n c, .bool false])) (he : Ext w w') : UnPost w none e w' := ⟨a, n, c, false, h, he, rfl⟩
theorem lastE {out : List En} {x : Int} (h : ∀ e, out.getLast? = some e → e.loc < x) (hn : out ≠ []) : ∃ e, out[out.length - 1]? = some e ∧ e.loc < x := by
 obtain ⟨e, he⟩ : ∃ e, out[out.length - 1]? = some e := ⟨_, List.getElem?_eq_getElem (by have := List.length_pos_iff.2 hn; omega)⟩
 exact ⟨e, he, h e (by rw [List.getLast?_eq_getElem?]; exact he)⟩
theorem lastN {out : List En} {x : Int} (h : ¬ ∀ e, out.getLast? = some e → e.loc < x) : out ≠ [] ∧ ∃ e, out[out.length - 1]? = some e ∧ x ≤ e.loc := by
 have hn : out ≠ [] := by rintro rfl; exact h (fun e he => by cases he)
 obtain ⟨e, he⟩ : ∃ e, out[out.length - 1]? = some e := ⟨_, List.getElem?_eq_getElem (by have := List.length_pos_iff.2 hn; omega)⟩
 refine ⟨hn, e, he, ?_⟩
 by_cases hx : x ≤ e.loc
 ·exact hx
 ·refine absurd (fun e' he' => ?_) h
  rw [List.getLast?_eq_getElem?, he] at he'
  cases he'; omega
theorem meas3 {n p p3 : Nat} (h : p < n) (h3 : p3 = p + 3) : n - (intOf (.int .i64 (p3 : Int))).toNat < n - (intOf (.int .i64 (p : Int))).toNat := by
 simp only [intOf]; omega
theorem meas3'' {n p : Nat} (h : p < n) : n - (intOf (.int .i64 ((p : Int) + 3))).toNat < n - (intOf (.int .i64 (p : Int))).toNat := by
 simp only [intOf]; omega
theorem slot_p3 {p3 : Nat} {x : Int} (h : x = (p3 : Int)) : Value.int .i64 x = Value.int .i64 (p3 : Int) := by rw [h]
theorem meas3' {n p p3 : Nat} {x : Int} (hx : x = (p3 : Int)) (h : p < n) (h3 : p3 = p + 3) : n - (intOf (.int .i64 x)).toNat < n - (intOf (.int .i64 (p : Int))).toNat := by
 rw [hx]; exact meas3 h h3
set_option maxRecDepth 100000 in
set_option maxHeartbeats 2000000 in
theorem hp_unpacked {X : HX} (d : Hd) (hd : HdN d) (h3 : ∃ k, d.ws.length = 3 * k) (hne : d.ws ≠ []) (hok : ∀ a ∈ d.ws, WdOk a) (w : World) (hw : Sl w 3 wdE X.ws d.ws) (hs : Szs w) :
 Calls Tryz.prog 133 #[.agg (hL (hR X d)).toArray] w fun e w' => UnPost w (hpUnpacked X.t X.c X.b d.ws) e w' := by
 have HS := hid hs
 have HOk := hid hok
 obtain ⟨wa, wc, hv, hm, hq⟩ := id hw
 obtain ⟨wb, wo, rfl, hwb, hc⟩ := hq hne
 obtain ⟨n, hn⟩ : ∃ n, n = d.ws.length := ⟨_, rfl⟩
 rw [← hn] at hv hm h3
 have HN := hid hn
 have HN1 := hid (show n ≤ 100 by have := hd.ws; omega)
 have HN3 := hid h3
 have HVW := hid hv
 have HWc := hid (show n ≤ wc from hm.2)
 have HWs := hid (show Sl w 3 wdE (.slice (some ⟨wb, wo, none⟩) n wc) d.ws by rw [← hv]; exact hw)
 have HWb := hid hwb
 clear hs hok hw hv hm hq hc hn hd h3 hne hwb
 go_enter Tryz.func133, Tryz.ntmps133
 go_upto_region 1 with fail
 generalize hV_ : World.alloc _ _ = V
 have HE_V := hid (show Ext w V by rw [← hV_]; exact exP)
 have HB_bx := hid (show Blk V (w.heap.size) (hL (hR X d)) by rw [← hV_]; exact bkP)
 clear hV_
 obtain ⟨bx, hg_bx⟩ : ∃ g, g = w.heap.size := ⟨_, rfl⟩
 simp only [← hg_bx] at HB_bx ⊢
 have HN_V := hid (show bx = w.heap.size ∧ bx < V.heap.size from ⟨hg_bx, HB_bx.out.1⟩)
 clear hg_bx
 have HW2 := hid (HWs.out.of wdE_len HE_V.out)
 have HWb2 := hid (Nat.lt_of_lt_of_le HWb.out HE_V.out.size)
 have HSV := hid (HS.out.of HE_V.out)
 go_wp2_with fail
 go_loopw [4, 5] (fun o_ i_ wr => ∃ (p : Nat), p ≤ n ∧ i_ = .int .i64 p ∧ ∃ (out : List En), Hid (∃ k, p = 3 * k) ∧ Hid (hpUnp X.t X.c X.b (d.ws.drop p) out = hpUnp X.t X.c X.b d.ws []) ∧ Hid (Own wr V.heap.size 120 6 enE o_ out) ∧ Hid (Ext V wr) ∧ Hid (out.length ≤ p ∧ ∀ e ∈ out, EnOk e)) (fun _ i_ _ => n - (intOf i_).toNat)
 case atStart => exact ⟨0, Nat.zero_le _, rfl, [], hid ⟨0, rfl⟩, hid rfl, hid ⟨by simp, .inl ⟨rfl, rfl⟩⟩, hid (Ext.refl _), hid ⟨Nat.zero_le _, fun e h => by cases h⟩⟩
 case round =>
  obtain ⟨p, hpn, rfl, out, HP3, HU, HO, HX, HL⟩ := hrel
  obtain ⟨av, cv, rfl⟩ := Own.shape HO.out
  have HPn := hid hpn
  clear hpn
  have x_ws : wr.cell? ⟨bx, 9, none⟩ = some (.slice (some ⟨wb, wo, none⟩) n wc) := by rw [← HVW.out]; exact (HB_bx.out.of HX.out).2.2 9 _ rfl
  have x_g := (HB_bx.out.of HX.out).1
  by_cases hp : p < n
  ·have hpi : (p : Int) < (n : Int) := by omega
   have HPl := hid hp
   have HP3n := hid (show p + 3 ≤ n by obtain ⟨k, hk⟩ := HP3.out; obtain ⟨m, hm⟩ := HN3.out; omega)
   obtain ⟨x, hx⟩ : ∃ x, d.ws[p]? = some x := ⟨d.ws[p]'(by rw [← HN.out]; omega), List.getElem?_eq_getElem _⟩
   obtain ⟨y, hy⟩ : ∃ y, d.ws[p + 1]? = some y := ⟨d.ws[p + 1]'(by rw [← HN.out]; have := HP3n.out; omega), List.getElem?_eq_getElem _⟩
   obtain ⟨z, hz⟩ : ∃ z, d.ws[p + 2]? = some z := ⟨d.ws[p + 2]'(by rw [← HN.out]; have := HP3n.out; omega), List.getElem?_eq_getElem _⟩
   have HOx := hid (HOk.out x (List.mem_of_getElem? hx))
   have HEn := hid (unE_ok (HOk.out x (List.mem_of_getElem? hx)) (HOk.out y (List.mem_of_getElem? hy)) (HOk.out z (List.mem_of_getElem? hz)))
   have HUg := hid (fun h => hpUnp_go (t := X.t) (c := X.c) (b := X.b) (out := out) hx hy hz h)
   have HUn := hid (fun h => hpUnp_no (t := X.t) (c := X.c) (b := X.b) (out := out) hx hy hz h)
   obtain ⟨x1, x2, x3⟩ := x
   obtain ⟨y1, y2, y3⟩ := y
   obtain ⟨z1, z2, z3⟩ := z
   have HXb := hid (show -9223372036854775808 ≤ x1 ∧ x1 ≤ 9223372036854775807 from HOx.out.1)
   obtain ⟨m0, m1, m2, m3, m4, m5, m6, m7, m8⟩ := Sl.nine (HW2.out.of wdE_len HX.out) hx hy hz
   obtain ⟨p3, hp3⟩ : ∃ q, q = p + 3 := ⟨_, rfl⟩
   have hw3 : wrap64 ((p : Int) + 3) = (p : Int) + 3 := IntWalk.wrap64_in _ (by have := HN1.out; omega)
   have hb0 : (0 : Int) ≤ (p : Int) := by omega
   have hb1 : (p : Int) + 3 ≤ (wc : Int) := by have := HP3n.out; have := HWc.out; omega
   have hb2 : (p : Int) ≤ (p : Int) + 3 := by omega
   have hb4 : ((p : Int) + 3).toNat = p + 3 := by omega
   have har : ∀ (a : Option Addr) (c : Nat) (w : World), (Instr.arrayAt 151 (.slice a 3 c)).run Tryz.prog w = .ok (.pointer a) w := fun a c w => run_arrayAt w _ _ 3 a 3 c Tryz.underlying151 (by omega)
   have hbw := Nat.lt_of_lt_of_le HWb2.out HX.out.size
   have HP3e := hid hp3
   clear hx hy hz hp
   go_wp2_with fail
   refine (unpack_any x1 x2 x3 y1 y2 y3 z1 z2 z3 wr).mono ?_
   rintro e w2 ⟨he_, hq_⟩
   have hx_ : Ext wr w2 := hq_
   have HE2 := hid hx_
   clear hq_ m0 m1 m2 m3 m4 m5 m6 m7 m8 hw3 hb0 hb1 hb2 hb4 har hbw x_ws x_g hpi
   cases hU : unpackB (x1, x2, x3) (y1, y2, y3) (z1, z2, z3)
   ·rw [hU] at he_
    simp only [Bool.false_eq_true, if_false] at he_
    subst he_
    have HRn := hid (show hpUnpacked X.t X.c X.b d.ws = none by
     unfold hpUnpacked; rw [← HU.out, HUn.out (fun h => by rw [h.1] at hU; cases hU)]; rfl)
    clear hU hx_
    go_upto_region 6 with fail
    generalize hV_ : World.alloc _ _ = R
    have HE_R := hid (show Ext w2 R by rw [← hV_]; exact exP)
    have HB_be := hid (show Blk R (w2.heap.size) [.int .i64 0, .int .i64 0, .int .u32 0, .int .u32 0, .int .i64 0, .bool false] by rw [← hV_]; exact bkP)
    clear hV_
    obtain ⟨be, hg_be⟩ : ∃ g, g = w2.heap.size := ⟨_, rfl⟩
    simp only [← hg_be] at HB_be ⊢
    have HN_R := hid (show be = w2.heap.size ∧ be < R.heap.size from ⟨hg_be, HB_be.out.1⟩)
    clear hg_be
    have HEw := hid (HE_V.out.trans (HX.out.trans (HE2.out.trans HE_R.out)))
    refine wp_region_held_drew (S := fun _ => True) (by kernel_rfl) (trivial) (fun hHeld => ?_)
    refine tkm 0 (v := ?_) rfl ?_ ?_
    rotate_left 1
    ·intro w hSw
     try dsimp only at hSw
     go_simp
     try with_reducible rfl
    (try simp only [Act.put, pA, pB, pC])
    refine tkm 1 (v := ?_) rfl ?_ ?_
    rotate_left 1
    ·intro w hSw
     try dsimp only at hSw
     go_simp
     try with_reducible rfl
    (try simp only [Act.put, pA, pB, pC])
    refine tkm 2 (v := ?_) rfl ?_ ?_
    rotate_left 1
    ·intro w hSw
     try dsimp only at hSw
     go_simp
     try with_reducible rfl
    (try simp only [Act.put, pA, pB, pC])
    refine take_unmet 3 (oi := ⟨_, _, _, _, _, _⟩) (by kernel_rfl) rfl (by rfl) (fun _ _ _ h => h) (by assumption) ?_
    (try simp only [Act.put, pA, pB, pC])
    refine take_unmet 4 (oi := ⟨_, _, _, _, _, _⟩) (by kernel_rfl) rfl (by rfl) (fun _ _ _ h => h) (by assumption) ?_
    (try simp only [Act.put, pA, pB, pC])
    refine take_unmet 5 (oi := ⟨_, _, _, _, _, _⟩) (by kernel_rfl) rfl (by rfl) (fun _ _ _ h => h) (by assumption) ?_
    (try simp only [Act.put, pA, pB, pC])
    refine take_unmet 6 (oi := ⟨_, _, _, _, _, _⟩) (by kernel_rfl) rfl (by rfl) (fun _ _ _ h => h) (by assumption) ?_
    (try simp only [Act.put, pA, pB, pC])
    refine take_unmet 7 (oi := ⟨_, _, _, _, _, _⟩) (by kernel_rfl) rfl (by rfl) (fun _ _ _ h => h) (by assumption) ?_
    (try simp only [Act.put, pA, pB, pC])
    refine take_unmet 8 (oi := ⟨_, _, _, _, _, _⟩) (by kernel_rfl) rfl (by rfl) (fun _ _ _ h => h) (by assumption) ?_
    (try simp only [Act.put, pA, pB, pC])
    refine tkm 9 (v := ?_) rfl ?_ ?_
    rotate_left 1
    ·intro w hSw
     try dsimp only at hSw
     go_simp
     try with_reducible rfl
    (try simp only [Act.put, pA, pB, pC])
    refine tkm 10 (v := ?_) rfl ?_ ?_
    rotate_left 1
    ·intro w hSw
     try dsimp only at hSw
     go_simp
     try with_reducible rfl
    (try simp only [Act.put, pA, pB, pC])
    refine take_unmet 11 (oi := ⟨_, _, _, _, _, _⟩) (by kernel_rfl) rfl (by rfl) (fun _ _ _ h => h) (by assumption) ?_
    (try simp only [Act.put, pA, pB, pC])
    refine take_unmet 12 (oi := ⟨_, _, _, _, _, _⟩) (by kernel_rfl) rfl (by rfl) (fun _ _ _ h => h) (by assumption) ?_
    (try simp only [Act.put, pA, pB, pC])
    refine take_unmet 13 (oi := ⟨_, _, _, _, _, _⟩) (by kernel_rfl) rfl (by rfl) (fun _ _ _ h => h) (by assumption) ?_
    (try simp only [Act.put, pA, pB, pC])
    refine take_unmet 14 (oi := ⟨_, _, _, _, _, _⟩) (by kernel_rfl) rfl (by rfl) (fun _ _ _ h => h) (by assumption) ?_
    (try simp only [Act.put, pA, pB, pC])
    refine take_unmet 15 (oi := ⟨_, _, _, _, _, _⟩) (by kernel_rfl) rfl (by rfl) (fun _ _ _ h => h) (by assumption) ?_
    (try simp only [Act.put, pA, pB, pC])
    refine take_unmet 16 (oi := ⟨_, _, _, _, _, _⟩) (by kernel_rfl) rfl (by rfl) (fun _ _ _ h => h) (by assumption) ?_
    (try simp only [Act.put, pA, pB, pC])
    refine take_unmet 17 (oi := ⟨_, _, _, _, _, _⟩) (by kernel_rfl) rfl (by rfl) (fun _ _ _ h => h) (by assumption) ?_
    (try simp only [Act.put, pA, pB, pC])
    refine take_unmet 18 (oi := ⟨_, _, _, _, _, _⟩) (by kernel_rfl) rfl (by rfl) (fun _ _ _ h => h) (by assumption) ?_
    (try simp only [Act.put, pA, pB, pC])
    refine take_unmet 19 (oi := ⟨_, _, _, _, _, _⟩) (by kernel_rfl) rfl (by rfl) (fun _ _ _ h => h) (by assumption) ?_
    (try simp only [Act.put, pA, pB, pC])
    refine take_unmet 20 (oi := ⟨_, _, _, _, _, _⟩) (by kernel_rfl) rfl (by rfl) (fun _ _ _ h => h) (by assumption) ?_
    (try simp only [Act.put, pA, pB, pC])
    refine take_unmet 21 (oi := ⟨_, _, _, _, _, _⟩) (by kernel_rfl) rfl (by rfl) (fun _ _ _ h => h) (by assumption) ?_
    (try simp only [Act.put, pA, pB, pC])
    refine take_unmet 22 (oi := ⟨_, _, _, _, _, _⟩) (by kernel_rfl) rfl (by rfl) (fun _ _ _ h => h) (by assumption) ?_
    (try simp only [Act.put, pA, pB, pC])
    refine take_unmet 23 (oi := ⟨_, _, _, _, _, _⟩) (by kernel_rfl) rfl (by rfl) (fun _ _ _ h => h) (by assumption) ?_
    (try simp only [Act.put, pA, pB, pC])
    refine take_unmet 24 (oi := ⟨_, _, _, _, _, _⟩) (by kernel_rfl) rfl (by rfl) (fun _ _ _ h => h) (by assumption) ?_
    (try simp only [Act.put, pA, pB, pC])
    refine take_unmet 25 (oi := ⟨_, _, _, _, _, _⟩) (by kernel_rfl) rfl (by rfl) (fun _ _ _ h => h) (by assumption) ?_
    (try simp only [Act.put, pA, pB, pC])
    refine tkm 26 (v := ?_) rfl ?_ ?_
    rotate_left 1
    ·intro w hSw
     try dsimp only at hSw
     go_simp
     try with_reducible rfl
    (try simp only [Act.put, pA, pB, pC])
    refine wpAnyH_done (by kernel_rfl) ?_ _
    clear hHeld
    go_wp2_with fail
    go_ret2
    rw [HRn.out]
    exact UnPost.no none 0 0 rfl (HEw.out.trans (by exact exP))
   ·rw [hU] at he_
    simp only [if_true] at he_
    subst he_
    have HUb := hid hU
    clear hU hx_
    go_upto_region 6 with fail
    generalize hV_ : World.alloc _ _ = R
    have HE_R := hid (show Ext w2 R by rw [← hV_]; exact exP)
    have HB_be := hid (show Blk R (w2.heap.size) [.int .i64 x1, .int .i64 y1, .int .u32 y2, .int .u32 y3, .int .i64 z1, .bool (x2 == 1)] by rw [← hV_]; exact bkP)
    clear hV_
    obtain ⟨be, hg_be⟩ : ∃ g, g = w2.heap.size := ⟨_, rfl⟩
    simp only [← hg_be] at HB_be ⊢
    have HN_R := hid (show be = w2.heap.size ∧ be < R.heap.size from ⟨hg_be, HB_be.out.1⟩)
    clear hg_be
    have hXR : Ext V R := HX.out.trans (HE2.out.trans HE_R.out)
    have HXR := hid hXR
    have HEw := hid (HE_V.out.trans hXR)
    have HSR := hid (HSV.out.of hXR)
    have HBR := hid (HB_bx.out.of hXR)
    clear hXR
    have c0 : R.cell? ⟨bx, 0, none⟩ = some (.int .i64 X.t) := HBR.out.2.2 0 _ rfl
    have c1 : R.cell? ⟨bx, 1, none⟩ = some (.int .i64 X.c) := HBR.out.2.2 1 _ rfl
    have c2 : R.cell? ⟨bx, 2, none⟩ = some (.int .i64 X.b) := HBR.out.2.2 2 _ rfl
    have cg := HBR.out.1
    have q0 : R.cell? ⟨be, 0, none⟩ = some (.int .i64 x1) := HB_be.out.2.2 0 _ rfl
    have qg := HB_be.out.1
    have HSt := hid (show ∀ w', Ext R w' → (fun w' => ((w'.cell? ⟨bx, 0, none⟩ = some (.int .i64 X.t) ∧ w'.cell? ⟨bx, 1, none⟩ = some (.int .i64 X.c) ∧ w'.cell? ⟨bx, 2, none⟩ = some (.int .i64 X.b) ∧ bx < w'.heap.size) ∧ w'.cell? ⟨be, 0, none⟩ = some (.int .i64 x1) ∧ be < w'.heap.size)) w' from fun w' h => ⟨⟨h.cell c0, h.cell c1, h.cell c2, Nat.lt_of_lt_of_le cg h.size⟩, h.cell q0, Nat.lt_of_lt_of_le qg h.size⟩)
    clear c0 c1 c2 cg q0 qg
    cases hM : mayN X.t X.c X.b x1
    ·have HMy := hid hM
     have HRn := hid (show hpUnpacked X.t X.c X.b d.ws = none by
      unfold hpUnpacked; rw [← HU.out, HUn.out (fun h => by have := h.2.1; dsimp only at this; rw [hM] at this; cases this)]; rfl)
     clear hM
     refine wp_region_held_drew (S := fun w' => ((w'.cell? ⟨bx, 0, none⟩ = some (.int .i64 X.t) ∧ w'.cell? ⟨bx, 1, none⟩ = some (.int .i64 X.c) ∧ w'.cell? ⟨bx, 2, none⟩ = some (.int .i64 X.b) ∧ bx < w'.heap.size) ∧ w'.cell? ⟨be, 0, none⟩ = some (.int .i64 x1) ∧ be < w'.heap.size)) (by kernel_rfl) (by exact HSt.out _ (by exact exP)) (fun hHeld => ?_)
     refine tkm 0 (v := ?_) rfl ?_ ?_
     rotate_left 1
     ·intro w hSw
      try dsimp only at hSw
      go_simp
      try with_reducible rfl
     (try simp only [Act.put, pA, pB, pC])
     refine tkm 1 (v := ?_) rfl ?_ ?_
     rotate_left 1
     ·intro w hSw
      try dsimp only at hSw
      go_simp
      try with_reducible rfl
     (try simp only [Act.put, pA, pB, pC])
     refine tkm 2 (v := ?_) rfl ?_ ?_
     rotate_left 1
     ·intro w hSw
      try dsimp only at hSw
      go_simp
      try with_reducible rfl
     (try simp only [Act.put, pA, pB, pC])
     refine tkm 3 (v := ?_) rfl ?_ ?_
     rotate_left 1
     ·intro w hSw
      try dsimp only at hSw
      go_simp
      try with_reducible rfl
     (try simp only [Act.put, pA, pB, pC])
     refine tkm 4 (v := ?_) rfl ?_ ?_
     rotate_left 1
     ·intro w hSw
      try dsimp only at hSw
      go_simp
      try with_reducible rfl
     (try simp only [Act.put, pA, pB, pC])
     refine tkm 5 (v := ?_) rfl ?_ ?_
     rotate_left 1
     ·intro w hSw
      try dsimp only at hSw
      go_simp
      try with_reducible rfl
     (try simp only [Act.put, pA, pB, pC])
     refine tkm 6 (v := ?_) rfl ?_ ?_
     rotate_left 1
     ·intro w hSw
      try dsimp only at hSw
      go_simp
      try with_reducible rfl
     (try simp only [Act.put, pA, pB, pC])
     refine take_only 7 (oi := ⟨_, _, _, _, _, _⟩) (by kernel_rfl) rfl (fun K hK => ?_)
     go_simp
     first
      | (go_at_call 28; refine (may_any X.t X.c X.b x1 HXb.out.1 HXb.out.2 _ (HSR.out.of (by exact exP))).mono ?_; rintro e w' ⟨rfl, r5, rfl⟩; rw [HMy.out])
     have hOld := hHeld
     clear hHeld
     refine hK.out _ _ (by exact HSt.out _ (by exact exP)) (fun hHeld => ?_)
     clear hOld hK K
     (try simp only [Act.put, pA, pB, pC])
     refine tkm 8 (v := ?_) rfl ?_ ?_
     rotate_left 1
     ·intro w hSw
      try dsimp only at hSw
      go_simp
      try with_reducible rfl
     (try simp only [Act.put, pA, pB, pC])
     refine tkm 9 (v := ?_) rfl ?_ ?_
     rotate_left 1
     ·intro w hSw
      try dsimp only at hSw
      go_simp
      try with_reducible rfl
     (try simp only [Act.put, pA, pB, pC])
     refine tkm 10 (v := ?_) rfl ?_ ?_
     rotate_left 1
     ·intro w hSw
      try dsimp only at hSw
      go_simp
      try with_reducible rfl
     (try simp only [Act.put, pA, pB, pC])
     refine take_unmet 11 (oi := ⟨_, _, _, _, _, _⟩) (by kernel_rfl) rfl (by rfl) (fun _ _ _ h => h) (by assumption) ?_
     (try simp only [Act.put, pA, pB, pC])
     refine take_unmet 12 (oi := ⟨_, _, _, _, _, _⟩) (by kernel_rfl) rfl (by rfl) (fun _ _ _ h => h) (by assumption) ?_
     (try simp only [Act.put, pA, pB, pC])
     refine take_unmet 13 (oi := ⟨_, _, _, _, _, _⟩) (by kernel_rfl) rfl (by rfl) (fun _ _ _ h => h) (by assumption) ?_
     (try simp only [Act.put, pA, pB, pC])
     refine take_unmet 14 (oi := ⟨_, _, _, _, _, _⟩) (by kernel_rfl) rfl (by rfl) (fun _ _ _ h => h) (by assumption) ?_
     (try simp only [Act.put, pA, pB, pC])
     refine take_unmet 15 (oi := ⟨_, _, _, _, _, _⟩) (by kernel_rfl) rfl (by rfl) (fun _ _ _ h => h) (by assumption) ?_
     (try simp only [Act.put, pA, pB, pC])
     refine take_unmet 16 (oi := ⟨_, _, _, _, _, _⟩) (by kernel_rfl) rfl (by rfl) (fun _ _ _ h => h) (by assumption) ?_
     (try simp only [Act.put, pA, pB, pC])
     refine take_unmet 17 (oi := ⟨_, _, _, _, _, _⟩) (by kernel_rfl) rfl (by rfl) (fun _ _ _ h => h) (by assumption) ?_
     (try simp only [Act.put, pA, pB, pC])
     refine take_unmet 18 (oi := ⟨_, _, _, _, _, _⟩) (by kernel_rfl) rfl (by rfl) (fun _ _ _ h => h) (by assumption) ?_
     (try simp only [Act.put, pA, pB, pC])
     refine take_unmet 19 (oi := ⟨_, _, _, _, _, _⟩) (by kernel_rfl) rfl (by rfl) (fun _ _ _ h => h) (by assumption) ?_
     (try simp only [Act.put, pA, pB, pC])
     refine take_unmet 20 (oi := ⟨_, _, _, _, _, _⟩) (by kernel_rfl) rfl (by rfl) (fun _ _ _ h => h) (by assumption) ?_
     (try simp only [Act.put, pA, pB, pC])
     refine take_unmet 21 (oi := ⟨_, _, _, _, _, _⟩) (by kernel_rfl) rfl (by rfl) (fun _ _ _ h => h) (by assumption) ?_
     (try simp only [Act.put, pA, pB, pC])
     refine take_unmet 22 (oi := ⟨_, _, _, _, _, _⟩) (by kernel_rfl) rfl (by rfl) (fun _ _ _ h => h) (by assumption) ?_
     (try simp only [Act.put, pA, pB, pC])
     refine take_unmet 23 (oi := ⟨_, _, _, _, _, _⟩) (by kernel_rfl) rfl (by rfl) (fun _ _ _ h => h) (by assumption) ?_
     (try simp only [Act.put, pA, pB, pC])
     refine take_unmet 24 (oi := ⟨_, _, _, _, _, _⟩) (by kernel_rfl) rfl (by rfl) (fun _ _ _ h => h) (by assumption) ?_
     (try simp only [Act.put, pA, pB, pC])
     refine take_unmet 25 (oi := ⟨_, _, _, _, _, _⟩) (by kernel_rfl) rfl (by rfl) (fun _ _ _ h => h) (by assumption) ?_
     (try simp only [Act.put, pA, pB, pC])
     refine tkm 26 (v := ?_) rfl ?_ ?_
     rotate_left 1
     ·intro w hSw
      try dsimp only at hSw
      go_simp
      try with_reducible rfl
     (try simp only [Act.put, pA, pB, pC])
     refine wpAnyH_done (by kernel_rfl) ?_ _
     clear hHeld
     go_wp2_with fail
     go_ret2
     rw [HRn.out]
     exact UnPost.no none 0 0 rfl (HEw.out.trans (by exact exP))
    ·have HMy := hid hM
     clear hM
     obtain ⟨L, hL⟩ : ∃ L, L = out.length := ⟨_, rfl⟩
     have HLe := hid hL
     have hL1 : L ≤ 100 := by have := HL.out.1; have := HPn.out; have := HN1.out; omega
     have HL1 := hid hL1
     have HOR := hid (show Own R V.heap.size 120 6 enE (.slice av L cv) out by rw [hL]; exact HO.out.of_ext (HE2.out.trans HE_R.out))
     simp only [← hL]
     by_cases hl : ∀ e, out.getLast? = some e → e.loc < x1
     ·have HUq := hid (show hpUnp X.t X.c X.b (d.ws.drop p3) (out ++ [⟨x1, y1, y2, y3, z1, x2 == 1⟩]) = hpUnp X.t X.c X.b d.ws [] by
       rw [HP3e.out, ← HU.out, HUg.out ⟨HUb.out, HMy.out, hl⟩]; rfl)
      have hwp : wrap64 ((p : Int) + 3) = (p3 : Int) := by rw [IntWalk.wrap64_in _ (by have := HN1.out; have := HPn.out; omega), HP3e.out]; omega
      by_cases hne : out = []
      ·have hL0 : L = 0 := by rw [hL, hne]; rfl
       subst hL0
       have hlt0 : decide ((0 : Int) < ((0 : Nat) : Int)) = false := by decide
       clear hl hne hL hL1
       refine wp_region_held_drew (S := fun w' => ((w'.cell? ⟨bx, 0, none⟩ = some (.int .i64 X.t) ∧ w'.cell? ⟨bx, 1, none⟩ = some (.int .i64 X.c) ∧ w'.cell? ⟨bx, 2, none⟩ = some (.int .i64 X.b) ∧ bx < w'.heap.size) ∧ w'.cell? ⟨be, 0, none⟩ = some (.int .i64 x1) ∧ be < w'.heap.size)) (by kernel_rfl) (by exact HSt.out _ (by exact exP)) (fun hHeld => ?_)
       refine tkm 0 (v := ?_) rfl ?_ ?_
       rotate_left 1
       ·intro w hSw
        try dsimp only at hSw
        go_simp
        try with_reducible rfl
       (try simp only [Act.put, pA, pB, pC])
       refine tkm 1 (v := ?_) rfl ?_ ?_
       rotate_left 1
       ·intro w hSw
        try dsimp only at hSw
        go_simp
        try with_reducible rfl
       (try simp only [Act.put, pA, pB, pC])
       refine tkm 2 (v := ?_) rfl ?_ ?_
       rotate_left 1
       ·intro w hSw
        try dsimp only at hSw
        go_simp
        try with_reducible rfl
       (try simp only [Act.put, pA, pB, pC])
       refine tkm 3 (v := ?_) rfl ?_ ?_
       rotate_left 1
       ·intro w hSw
        try dsimp only at hSw
        go_simp
        try with_reducible rfl
       (try simp only [Act.put, pA, pB, pC])
       refine tkm 4 (v := ?_) rfl ?_ ?_
       rotate_left 1
       ·intro w hSw
        try dsimp only at hSw
        go_simp
        try with_reducible rfl
       (try simp only [Act.put, pA, pB, pC])
       refine tkm 5 (v := ?_) rfl ?_ ?_
       rotate_left 1
       ·intro w hSw
        try dsimp only at hSw
        go_simp
        try with_reducible rfl
       (try simp only [Act.put, pA, pB, pC])
       refine tkm 6 (v := ?_) rfl ?_ ?_
       rotate_left 1
       ·intro w hSw
        try dsimp only at hSw
        go_simp
        try with_reducible rfl
       (try simp only [Act.put, pA, pB, pC])
       refine take_only 7 (oi := ⟨_, _, _, _, _, _⟩) (by kernel_rfl) rfl (fun K hK => ?_)
       go_simp
       first
        | (go_at_call 28; refine (may_any X.t X.c X.b x1 HXb.out.1 HXb.out.2 _ (HSR.out.of (by exact exP))).mono ?_; rintro e w' ⟨rfl, r5, rfl⟩; rw [HMy.out])
       have hOld := hHeld
       clear hHeld
       refine hK.out _ _ (by exact HSt.out _ (by exact exP)) (fun hHeld => ?_)
       clear hOld hK K
       (try simp only [Act.put, pA, pB, pC])
       refine tkm 8 (v := ?_) rfl ?_ ?_
       rotate_left 1
       ·intro w hSw
        try dsimp only at hSw
        go_simp
        try with_reducible rfl
       (try simp only [Act.put, pA, pB, pC])
       refine tkm 9 (v := ?_) rfl ?_ ?_
       rotate_left 1
       ·intro w hSw
        try dsimp only at hSw
        go_simp
        try with_reducible rfl
       (try simp only [Act.put, pA, pB, pC])
       refine tkm 10 (v := ?_) rfl ?_ ?_
       rotate_left 1
       ·intro w hSw
        try dsimp only at hSw
        go_simp
        try with_reducible rfl
       (try simp only [Act.put, pA, pB, pC])
       refine tkm 11 (v := ?_) rfl ?_ ?_
       rotate_left 1
       ·intro w hSw
        try dsimp only at hSw
        go_simp
        try with_reducible rfl
       (try simp only [Act.put, pA, pB, pC])
       refine tkm 12 (v := ?_) rfl ?_ ?_
       rotate_left 1
       ·intro w hSw
        try dsimp only at hSw
        go_simp
        try with_reducible rfl
       (try simp only [Act.put, pA, pB, pC])
       refine tkm 13 (v := ?_) rfl ?_ ?_
       rotate_left 1
       ·intro w hSw
        try dsimp only at hSw
        go_simp
        try with_reducible rfl
       (try simp only [Act.put, pA, pB, pC])
       refine tkm 14 (v := ?_) rfl ?_ ?_
       rotate_left 1
       ·intro w hSw
        try dsimp only at hSw
        go_simp
        try with_reducible rfl
       (try simp only [Act.put, pA, pB, pC])
       refine take_unmet 15 (oi := ⟨_, _, _, _, _, _⟩) (by kernel_rfl) rfl (by rfl) (fun _ _ _ h => h) (by assumption) ?_
       (try simp only [Act.put, pA, pB, pC])
       refine take_unmet 16 (oi := ⟨_, _, _, _, _, _⟩) (by kernel_rfl) rfl (by rfl) (fun _ _ _ h => h) (by assumption) ?_
       (try simp only [Act.put, pA, pB, pC])
       refine take_unmet 17 (oi := ⟨_, _, _, _, _, _⟩) (by kernel_rfl) rfl (by rfl) (fun _ _ _ h => h) (by assumption) ?_
       (try simp only [Act.put, pA, pB, pC])
       refine take_unmet 18 (oi := ⟨_, _, _, _, _, _⟩) (by kernel_rfl) rfl (by rfl) (fun _ _ _ h => h) (by assumption) ?_
       (try simp only [Act.put, pA, pB, pC])
       refine take_unmet 19 (oi := ⟨_, _, _, _, _, _⟩) (by kernel_rfl) rfl (by rfl) (fun _ _ _ h => h) (by assumption) ?_
       (try simp only [Act.put, pA, pB, pC])
       refine take_unmet 20 (oi := ⟨_, _, _, _, _, _⟩) (by kernel_rfl) rfl (by rfl) (fun _ _ _ h => h) (by assumption) ?_
       (try simp only [Act.put, pA, pB, pC])
       refine take_unmet 21 (oi := ⟨_, _, _, _, _, _⟩) (by kernel_rfl) rfl (by rfl) (fun _ _ _ h => h) (by assumption) ?_
       (try simp only [Act.put, pA, pB, pC])
       refine take_unmet 22 (oi := ⟨_, _, _, _, _, _⟩) (by kernel_rfl) rfl (by rfl) (fun _ _ _ h => h) (by assumption) ?_
       (try simp only [Act.put, pA, pB, pC])
       refine take_unmet 23 (oi := ⟨_, _, _, _, _, _⟩) (by kernel_rfl) rfl (by rfl) (fun _ _ _ h => h) (by assumption) ?_
       (try simp only [Act.put, pA, pB, pC])
       refine take_unmet 24 (oi := ⟨_, _, _, _, _, _⟩) (by kernel_rfl) rfl (by rfl) (fun _ _ _ h => h) (by assumption) ?_
       (try simp only [Act.put, pA, pB, pC])
       refine tkm 25 (v := ?_) rfl ?_ ?_
       rotate_left 1
       ·intro w hSw
        try dsimp only at hSw
        go_simp
        try with_reducible rfl
       (try simp only [Act.put, pA, pB, pC])
       refine tkm 26 (v := ?_) rfl ?_ ?_
       rotate_left 1
       ·intro w hSw
        try dsimp only at hSw
        go_simp
        try with_reducible rfl
       (try simp only [Act.put, pA, pB, pC])
       refine wpAnyH_done (by kernel_rfl) ?_ _
       clear hHeld
       have bg0 := HB_be.out.1
       have HLn := hid (show out.length + 1 ≤ 1000000 by have := HL1.out; have := HLe.out; omega)
       have bb0 : R.cell? ⟨be, 0, none⟩ = some (.int .i64 x1) := HB_be.out.2.2 0 _ rfl
       have bb1 : R.cell? ⟨be, 1, none⟩ = some (.int .i64 y1) := HB_be.out.2.2 1 _ rfl
       have bb2 : R.cell? ⟨be, 2, none⟩ = some (.int .u32 y2) := HB_be.out.2.2 2 _ rfl
       have bb3 : R.cell? ⟨be, 3, none⟩ = some (.int .u32 y3) := HB_be.out.2.2 3 _ rfl
       have bb4 : R.cell? ⟨be, 4, none⟩ = some (.int .i64 z1) := HB_be.out.2.2 4 _ rfl
       have bb5 : R.cell? ⟨be, 5, none⟩ = some (.bool (x2 == 1)) := HB_be.out.2.2 5 _ rfl
       go_wp2_with (at_builtin; refine es_append_b rfl _ _ rfl V (by exact exP) (Nat.le_refl _) (show Ext V _ by exact exP).size rfl (show Own _ V.heap.size 120 6 enE (.slice av 0 cv) out from by (show Own _ _ _ _ _ _ _; repeat (first | with_reducible (refine Hid.out ?_; assumption) | with_reducible refine Own.drew ?_ | with_reducible refine Own.ext ?_ _ | with_reducible refine Own.alloc ?_ _))) _ 1 1 rfl [⟨x1, y1, y2, y3, z1, x2 == 1⟩] rfl (news_new rfl _ (by (first | rfl | (simp; done)))) HLn.out ?_; rintro v9 w9 hv9 hX9 hB9; have HX9 := hid hX9; have HV9 := hid hv9; clear hB9 hX9 hv9)
       go_roundw
       case rel => exact ⟨p3, by rw [HP3e.out]; exact HP3n.out, slot_p3 hwp, out ++ [⟨x1, y1, y2, y3, z1, x2 == 1⟩], hid (by obtain ⟨k, hk⟩ := HP3.out; exact ⟨k + 1, by rw [HP3e.out, hk]; rfl⟩), HUq, HV9, HX9, hid ⟨by rw [List.length_append, HP3e.out]; have := HL.out.1; simp; omega, fun e' he' => by
               rcases List.mem_append.1 he' with h | h
               ·exact HL.out.2 e' h
               ·rw [List.mem_singleton.1 h]; exact HEn.out⟩⟩
       case measure => first | exact meas3 HPl.out HP3e.out | exact meas3' hwp HPl.out HP3e.out | exact meas3'' HPl.out
      ·obtain ⟨e, he, hlt⟩ := lastE hl hne
       have hpos := List.length_pos_iff.2 hne
       clear hl hne
       obtain ⟨lq, hlq⟩ : ∃ q, q = L - 1 := ⟨_, rfl⟩
       have hLp : (0 : Int) < (L : Int) := by omega
       have hLpd : decide ((0 : Int) < (L : Int)) = true := decide_eq_true hLp
       have hLpn : 0 < L := by omega
       have hLpe : decide (0 < L) = true := decide_eq_true hLpn
       have hwl : wrap64 ((L : Int) - 1) = (lq : Int) := by rw [IntWalk.wrap64_in _ (by omega)]; omega
       have hwl2 : IntKind.i64.wrap ((L : Int) - 1) = (lq : Int) := by rw [show (L : Int) - 1 = (lq : Int) by omega]; exact IntWalk.i64_in _ (by omega)
       have hll : (lq : Int) < (L : Int) := by omega
       have hlln : lq < L := by omega
       rw [← hL, ← hlq] at he
       obtain ⟨hlen_, ob, oo, hav, hob, hcl⟩ := (Sl.of_own enE_len HOR.out).at he
       clear hlen_
       have ll := hcl 0 (by decide)
       simp [enE] at ll
       subst hav
       have HSt2 := hid (show ∀ w', Ext R w' → (fun w' => (((w'.cell? ⟨bx, 0, none⟩ = some (.int .i64 X.t) ∧ w'.cell? ⟨bx, 1, none⟩ = some (.int .i64 X.c) ∧ w'.cell? ⟨bx, 2, none⟩ = some (.int .i64 X.b) ∧ bx < w'.heap.size) ∧ w'.cell? ⟨be, 0, none⟩ = some (.int .i64 x1) ∧ be < w'.heap.size)) ∧ w'.cell? ⟨ob, oo + lq * 6, none⟩ = some (.int .i64 e.loc) ∧ ob < w'.heap.size) w' from fun w' h => ⟨HSt.out w' h, h.cell ll, Nat.lt_of_lt_of_le hob h.size⟩)
       clear HSt hcl he ll hob hpos hlq
       have hge : decide (x1 ≤ e.loc) = false := decide_eq_false (by omega)
       have hge2 : ¬ x1 ≤ e.loc := by omega
       clear hlt hL hL1
       refine wp_region_held_drew (S := fun w' => (((w'.cell? ⟨bx, 0, none⟩ = some (.int .i64 X.t) ∧ w'.cell? ⟨bx, 1, none⟩ = some (.int .i64 X.c) ∧ w'.cell? ⟨bx, 2, none⟩ = some (.int .i64 X.b) ∧ bx < w'.heap.size) ∧ w'.cell? ⟨be, 0, none⟩ = some (.int .i64 x1) ∧ be < w'.heap.size)) ∧ w'.cell? ⟨ob, oo + lq * 6, none⟩ = some (.int .i64 e.loc) ∧ ob < w'.heap.size) (by kernel_rfl) (by exact HSt2.out _ (by exact exP)) (fun hHeld => ?_)
       refine tkm 0 (v := ?_) rfl ?_ ?_
       rotate_left 1
       ·intro w hSw
        try dsimp only at hSw
        go_simp
        try with_reducible rfl
       (try simp only [Act.put, pA, pB, pC])
       refine tkm 1 (v := ?_) rfl ?_ ?_
       rotate_left 1
       ·intro w hSw
        try dsimp only at hSw
        go_simp
        try with_reducible rfl
       (try simp only [Act.put, pA, pB, pC])
       refine tkm 2 (v := ?_) rfl ?_ ?_
       rotate_left 1
       ·intro w hSw
        try dsimp only at hSw
        go_simp
        try with_reducible rfl
       (try simp only [Act.put, pA, pB, pC])
       refine tkm 3 (v := ?_) rfl ?_ ?_
       rotate_left 1
       ·intro w hSw
        try dsimp only at hSw
        go_simp
        try with_reducible rfl
       (try simp only [Act.put, pA, pB, pC])
       refine tkm 4 (v := ?_) rfl ?_ ?_
       rotate_left 1
       ·intro w hSw
        try dsimp only at hSw
        go_simp
        try with_reducible rfl
       (try simp only [Act.put, pA, pB, pC])
       refine tkm 5 (v := ?_) rfl ?_ ?_
       rotate_left 1
       ·intro w hSw
        try dsimp only at hSw
        go_simp
        try with_reducible rfl
       (try simp only [Act.put, pA, pB, pC])
       refine tkm 6 (v := ?_) rfl ?_ ?_
       rotate_left 1
       ·intro w hSw
        try dsimp only at hSw
        go_simp
        try with_reducible rfl
       (try simp only [Act.put, pA, pB, pC])
       refine take_only 7 (oi := ⟨_, _, _, _, _, _⟩) (by kernel_rfl) rfl (fun K hK => ?_)
       go_simp
       first
        | (go_at_call 28; refine (may_any X.t X.c X.b x1 HXb.out.1 HXb.out.2 _ (HSR.out.of (by exact exP))).mono ?_; rintro e w' ⟨rfl, r5, rfl⟩; rw [HMy.out])
       have hOld := hHeld
       clear hHeld
       refine hK.out _ _ (by exact HSt2.out _ (by exact exP)) (fun hHeld => ?_)
       clear hOld hK K
       (try simp only [Act.put, pA, pB, pC])
       refine tkm 8 (v := ?_) rfl ?_ ?_
       rotate_left 1
       ·intro w hSw
        try dsimp only at hSw
        go_simp
        try with_reducible rfl
       (try simp only [Act.put, pA, pB, pC])
       refine tkm 9 (v := ?_) rfl ?_ ?_
       rotate_left 1
       ·intro w hSw
        try dsimp only at hSw
        go_simp
        try with_reducible rfl
       (try simp only [Act.put, pA, pB, pC])
       refine tkm 10 (v := ?_) rfl ?_ ?_
       rotate_left 1
       ·intro w hSw
        try dsimp only at hSw
        go_simp
        try with_reducible rfl
       (try simp only [Act.put, pA, pB, pC])
       refine tkm 11 (v := ?_) rfl ?_ ?_
       rotate_left 1
       ·intro w hSw
        try dsimp only at hSw
        go_simp
        try with_reducible rfl
       (try simp only [Act.put, pA, pB, pC])
       refine tkm 12 (v := ?_) rfl ?_ ?_
       rotate_left 1
       ·intro w hSw
        try dsimp only at hSw
        go_simp
        try with_reducible rfl
       (try simp only [Act.put, pA, pB, pC])
       refine tkm 13 (v := ?_) rfl ?_ ?_
       rotate_left 1
       ·intro w hSw
        try dsimp only at hSw
        go_simp
        try with_reducible rfl
       (try simp only [Act.put, pA, pB, pC])
       refine tkm 14 (v := ?_) rfl ?_ ?_
       rotate_left 1
       ·intro w hSw
        try dsimp only at hSw
        go_simp
        try with_reducible rfl
       (try simp only [Act.put, pA, pB, pC])
       refine tkm 15 (v := ?_) rfl ?_ ?_
       rotate_left 1
       ·intro w hSw
        try dsimp only at hSw
        go_simp
        try with_reducible rfl
       (try simp only [Act.put, pA, pB, pC])
       refine tkm 16 (v := ?_) rfl ?_ ?_
       rotate_left 1
       ·intro w hSw
        try dsimp only at hSw
        go_simp
        try with_reducible rfl
       (try simp only [Act.put, pA, pB, pC])
       refine tkm 17 (v := ?_) rfl ?_ ?_
       rotate_left 1
       ·intro w hSw
        try dsimp only at hSw
        go_simp
        try with_reducible rfl
       (try simp only [Act.put, pA, pB, pC])
       refine tkm 18 (v := ?_) rfl ?_ ?_
       rotate_left 1
       ·intro w hSw
        try dsimp only at hSw
        go_simp
        try with_reducible rfl
       (try simp only [Act.put, pA, pB, pC])
       refine tkm 19 (v := ?_) rfl ?_ ?_
       rotate_left 1
       ·intro w hSw
        try dsimp only at hSw
        go_simp
        try with_reducible rfl
       (try simp only [Act.put, pA, pB, pC])
       refine tkm 20 (v := ?_) rfl ?_ ?_
       rotate_left 1
       ·intro w hSw
        try dsimp only at hSw
        go_simp
        try with_reducible rfl
       (try simp only [Act.put, pA, pB, pC])
       refine tkm 21 (v := ?_) rfl ?_ ?_
       rotate_left 1
       ·intro w hSw
        try dsimp only at hSw
        go_simp
        try with_reducible rfl
       (try simp only [Act.put, pA, pB, pC])
       refine tkm 22 (v := ?_) rfl ?_ ?_
       rotate_left 1
       ·intro w hSw
        try dsimp only at hSw
        go_simp
        try with_reducible rfl
       (try simp only [Act.put, pA, pB, pC])
       refine tkm 23 (v := ?_) rfl ?_ ?_
       rotate_left 1
       ·intro w hSw
        try dsimp only at hSw
        go_simp
        try with_reducible rfl
       (try simp only [Act.put, pA, pB, pC])
       refine tkm 24 (v := ?_) rfl ?_ ?_
       rotate_left 1
       ·intro w hSw
        try dsimp only at hSw
        go_simp
        try with_reducible rfl
       (try simp only [Act.put, pA, pB, pC])
       refine tkm 25 (v := ?_) rfl ?_ ?_
       rotate_left 1
       ·intro w hSw
        try dsimp only at hSw
        go_simp
        try with_reducible rfl
       (try simp only [Act.put, pA, pB, pC])
       refine tkm 26 (v := ?_) rfl ?_ ?_
       rotate_left 1
       ·intro w hSw
        try dsimp only at hSw
        go_simp
        try with_reducible rfl
       (try simp only [Act.put, pA, pB, pC])
       refine wpAnyH_done (by kernel_rfl) ?_ _
       clear hHeld
       have bg0 := HB_be.out.1
       have HLn := hid (show out.length + 1 ≤ 1000000 by have := HL1.out; have := HLe.out; omega)
       have bb0 : R.cell? ⟨be, 0, none⟩ = some (.int .i64 x1) := HB_be.out.2.2 0 _ rfl
       have bb1 : R.cell? ⟨be, 1, none⟩ = some (.int .i64 y1) := HB_be.out.2.2 1 _ rfl
       have bb2 : R.cell? ⟨be, 2, none⟩ = some (.int .u32 y2) := HB_be.out.2.2 2 _ rfl
       have bb3 : R.cell? ⟨be, 3, none⟩ = some (.int .u32 y3) := HB_be.out.2.2 3 _ rfl
       have bb4 : R.cell? ⟨be, 4, none⟩ = some (.int .i64 z1) := HB_be.out.2.2 4 _ rfl
       have bb5 : R.cell? ⟨be, 5, none⟩ = some (.bool (x2 == 1)) := HB_be.out.2.2 5 _ rfl
       go_wp2_with (at_builtin; refine es_append_b rfl _ _ rfl V (by exact exP) (Nat.le_refl _) (show Ext V _ by exact exP).size rfl (show Own _ V.heap.size 120 6 enE (.slice (some ⟨ob, oo, none⟩) L cv) out from by (show Own _ _ _ _ _ _ _; repeat (first | with_reducible (refine Hid.out ?_; assumption) | with_reducible refine Own.drew ?_ | with_reducible refine Own.ext ?_ _ | with_reducible refine Own.alloc ?_ _))) _ 1 1 rfl [⟨x1, y1, y2, y3, z1, x2 == 1⟩] rfl (news_new rfl _ (by (first | rfl | (simp; done)))) HLn.out ?_; rintro v9 w9 hv9 hX9 hB9; have HX9 := hid hX9; have HV9 := hid hv9; clear hB9 hX9 hv9)
       go_roundw
       case rel => exact ⟨p3, by rw [HP3e.out]; exact HP3n.out, slot_p3 hwp, out ++ [⟨x1, y1, y2, y3, z1, x2 == 1⟩], hid (by obtain ⟨k, hk⟩ := HP3.out; exact ⟨k + 1, by rw [HP3e.out, hk]; rfl⟩), HUq, HV9, HX9, hid ⟨by rw [List.length_append, HP3e.out]; have := HL.out.1; simp; omega, fun e' he' => by
               rcases List.mem_append.1 he' with h | h
               ·exact HL.out.2 e' h
               ·rw [List.mem_singleton.1 h]; exact HEn.out⟩⟩
       case measure => first | exact meas3 HPl.out HP3e.out | exact meas3' hwp HPl.out HP3e.out | exact meas3'' HPl.out
     ·obtain ⟨hne, e, he, hlt⟩ := lastN hl
      have HRn := hid (show hpUnpacked X.t X.c X.b d.ws = none by
       unfold hpUnpacked; rw [← HU.out, HUn.out (fun h => hl h.2.2)]; rfl)
      have hpos := List.length_pos_iff.2 hne
      clear hl hne
      obtain ⟨lq, hlq⟩ : ∃ q, q = L - 1 := ⟨_, rfl⟩
      have hLp : (0 : Int) < (L : Int) := by omega
      have hLpd : decide ((0 : Int) < (L : Int)) = true := decide_eq_true hLp
      have hLpn : 0 < L := by omega
      have hLpe : decide (0 < L) = true := decide_eq_true hLpn
      have hwl : wrap64 ((L : Int) - 1) = (lq : Int) := by rw [IntWalk.wrap64_in _ (by omega)]; omega
      have hwl2 : IntKind.i64.wrap ((L : Int) - 1) = (lq : Int) := by rw [show (L : Int) - 1 = (lq : Int) by omega]; exact IntWalk.i64_in _ (by omega)
      have hll : (lq : Int) < (L : Int) := by omega
      have hlln : lq < L := by omega
      rw [← hL, ← hlq] at he
      obtain ⟨hlen_, ob, oo, hav, hob, hcl⟩ := (Sl.of_own enE_len HOR.out).at he
      clear hlen_
      have ll := hcl 0 (by decide)
      simp [enE] at ll
      subst hav
      have HSt2 := hid (show ∀ w', Ext R w' → (fun w' => (((w'.cell? ⟨bx, 0, none⟩ = some (.int .i64 X.t) ∧ w'.cell? ⟨bx, 1, none⟩ = some (.int .i64 X.c) ∧ w'.cell? ⟨bx, 2, none⟩ = some (.int .i64 X.b) ∧ bx < w'.heap.size) ∧ w'.cell? ⟨be, 0, none⟩ = some (.int .i64 x1) ∧ be < w'.heap.size)) ∧ w'.cell? ⟨ob, oo + lq * 6, none⟩ = some (.int .i64 e.loc) ∧ ob < w'.heap.size) w' from fun w' h => ⟨HSt.out w' h, h.cell ll, Nat.lt_of_lt_of_le hob h.size⟩)
      clear HSt hcl he ll hob hpos hlq
      have hge : decide (x1 ≤ e.loc) = true := decide_eq_true hlt
      have hge2 := hlt
      clear hlt hL hL1
      refine wp_region_held_drew (S := fun w' => (((w'.cell? ⟨bx, 0, none⟩ = some (.int .i64 X.t) ∧ w'.cell? ⟨bx, 1, none⟩ = some (.int .i64 X.c) ∧ w'.cell? ⟨bx, 2, none⟩ = some (.int .i64 X.b) ∧ bx < w'.heap.size) ∧ w'.cell? ⟨be, 0, none⟩ = some (.int .i64 x1) ∧ be < w'.heap.size)) ∧ w'.cell? ⟨ob, oo + lq * 6, none⟩ = some (.int .i64 e.loc) ∧ ob < w'.heap.size) (by kernel_rfl) (by exact HSt2.out _ (by exact exP)) (fun hHeld => ?_)
      refine tkm 0 (v := ?_) rfl ?_ ?_
      rotate_left 1
      ·intro w hSw
       try dsimp only at hSw
       go_simp
       try with_reducible rfl
      (try simp only [Act.put, pA, pB, pC])
      refine tkm 1 (v := ?_) rfl ?_ ?_
      rotate_left 1
      ·intro w hSw
       try dsimp only at hSw
       go_simp
       try with_reducible rfl
      (try simp only [Act.put, pA, pB, pC])
      refine tkm 2 (v := ?_) rfl ?_ ?_
      rotate_left 1
      ·intro w hSw
       try dsimp only at hSw
       go_simp
       try with_reducible rfl
      (try simp only [Act.put, pA, pB, pC])
      refine tkm 3 (v := ?_) rfl ?_ ?_
      rotate_left 1
      ·intro w hSw
       try dsimp only at hSw
       go_simp
       try with_reducible rfl
      (try simp only [Act.put, pA, pB, pC])
      refine tkm 4 (v := ?_) rfl ?_ ?_
      rotate_left 1
      ·intro w hSw
       try dsimp only at hSw
       go_simp
       try with_reducible rfl
      (try simp only [Act.put, pA, pB, pC])
      refine tkm 5 (v := ?_) rfl ?_ ?_
      rotate_left 1
      ·intro w hSw
       try dsimp only at hSw
       go_simp
       try with_reducible rfl
      (try simp only [Act.put, pA, pB, pC])
      refine tkm 6 (v := ?_) rfl ?_ ?_
      rotate_left 1
      ·intro w hSw
       try dsimp only at hSw
       go_simp
       try with_reducible rfl
      (try simp only [Act.put, pA, pB, pC])
      refine take_only 7 (oi := ⟨_, _, _, _, _, _⟩) (by kernel_rfl) rfl (fun K hK => ?_)
      go_simp
      first
       | (go_at_call 28; refine (may_any X.t X.c X.b x1 HXb.out.1 HXb.out.2 _ (HSR.out.of (by exact exP))).mono ?_; rintro e w' ⟨rfl, r5, rfl⟩; rw [HMy.out])
      have hOld := hHeld
      clear hHeld
      refine hK.out _ _ (by exact HSt2.out _ (by exact exP)) (fun hHeld => ?_)
      clear hOld hK K
      (try simp only [Act.put, pA, pB, pC])
      refine tkm 8 (v := ?_) rfl ?_ ?_
      rotate_left 1
      ·intro w hSw
       try dsimp only at hSw
       go_simp
       try with_reducible rfl
      (try simp only [Act.put, pA, pB, pC])
      refine tkm 9 (v := ?_) rfl ?_ ?_
      rotate_left 1
      ·intro w hSw
       try dsimp only at hSw
       go_simp
       try with_reducible rfl
      (try simp only [Act.put, pA, pB, pC])
      refine tkm 10 (v := ?_) rfl ?_ ?_
      rotate_left 1
      ·intro w hSw
       try dsimp only at hSw
       go_simp
       try with_reducible rfl
      (try simp only [Act.put, pA, pB, pC])
      refine tkm 11 (v := ?_) rfl ?_ ?_
      rotate_left 1
      ·intro w hSw
       try dsimp only at hSw
       go_simp
       try with_reducible rfl
      (try simp only [Act.put, pA, pB, pC])
      refine tkm 12 (v := ?_) rfl ?_ ?_
      rotate_left 1
      ·intro w hSw
       try dsimp only at hSw
       go_simp
       try with_reducible rfl
      (try simp only [Act.put, pA, pB, pC])
      refine tkm 13 (v := ?_) rfl ?_ ?_
      rotate_left 1
      ·intro w hSw
       try dsimp only at hSw
       go_simp
       try with_reducible rfl
      (try simp only [Act.put, pA, pB, pC])
      refine tkm 14 (v := ?_) rfl ?_ ?_
      rotate_left 1
      ·intro w hSw
       try dsimp only at hSw
       go_simp
       try with_reducible rfl
      (try simp only [Act.put, pA, pB, pC])
      refine tkm 15 (v := ?_) rfl ?_ ?_
      rotate_left 1
      ·intro w hSw
       try dsimp only at hSw
       go_simp
       try with_reducible rfl
      (try simp only [Act.put, pA, pB, pC])
      refine tkm 16 (v := ?_) rfl ?_ ?_
      rotate_left 1
      ·intro w hSw
       try dsimp only at hSw
       go_simp
       try with_reducible rfl
      (try simp only [Act.put, pA, pB, pC])
      refine tkm 17 (v := ?_) rfl ?_ ?_
      rotate_left 1
      ·intro w hSw
       try dsimp only at hSw
       go_simp
       try with_reducible rfl
      (try simp only [Act.put, pA, pB, pC])
      refine tkm 18 (v := ?_) rfl ?_ ?_
      rotate_left 1
      ·intro w hSw
       try dsimp only at hSw
       go_simp
       try with_reducible rfl
      (try simp only [Act.put, pA, pB, pC])
      refine tkm 19 (v := ?_) rfl ?_ ?_
      rotate_left 1
      ·intro w hSw
       try dsimp only at hSw
       go_simp
       try with_reducible rfl
      (try simp only [Act.put, pA, pB, pC])
      refine tkm 20 (v := ?_) rfl ?_ ?_
      rotate_left 1
      ·intro w hSw
       try dsimp only at hSw
       go_simp
       try with_reducible rfl
      (try simp only [Act.put, pA, pB, pC])
      refine tkm 21 (v := ?_) rfl ?_ ?_
      rotate_left 1
      ·intro w hSw
       try dsimp only at hSw
       go_simp
       try with_reducible rfl
      (try simp only [Act.put, pA, pB, pC])
      refine tkm 22 (v := ?_) rfl ?_ ?_
      rotate_left 1
      ·intro w hSw
       try dsimp only at hSw
       go_simp
       try with_reducible rfl
      (try simp only [Act.put, pA, pB, pC])
      refine tkm 23 (v := ?_) rfl ?_ ?_
      rotate_left 1
      ·intro w hSw
       try dsimp only at hSw
       go_simp
       try with_reducible rfl
      (try simp only [Act.put, pA, pB, pC])
      refine tkm 24 (v := ?_) rfl ?_ ?_
      rotate_left 1
      ·intro w hSw
       try dsimp only at hSw
       go_simp
       try with_reducible rfl
      (try simp only [Act.put, pA, pB, pC])
      refine tkm 25 (v := ?_) rfl ?_ ?_
      rotate_left 1
      ·intro w hSw
       try dsimp only at hSw
       go_simp
       try with_reducible rfl
      (try simp only [Act.put, pA, pB, pC])
      refine tkm 26 (v := ?_) rfl ?_ ?_
      rotate_left 1
      ·intro w hSw
       try dsimp only at hSw
       go_simp
       try with_reducible rfl
      (try simp only [Act.put, pA, pB, pC])
      refine wpAnyH_done (by kernel_rfl) ?_ _
      clear hHeld
      go_wp2_with fail
      go_ret2
      rw [HRn.out]
      exact UnPost.no none 0 0 rfl (HEw.out.trans (by exact exP))
  ·have hpi : ¬ (p : Int) < (n : Int) := by omega
   have hpe : p = n := by have := HPn.out; omega
   have HRu := hid (show hpUnpacked X.t X.c X.b d.ws = if checkE out = 0 then some out else none by
    have h := HU.out
    rw [hpe, HN.out, hpUnp_end] at h
    unfold hpUnpacked
    rw [← h]; rfl)
   clear hp hpe
   have hSl := (Sl.of_own enE_len HO.out)
   have HSl := hid hSl
   clear hSl
   go_wp2_with fail
   refine (echeck_any out _ HL.out.2 wr HSl.out).mono ?_
   rintro e w' ⟨rfl, hq_⟩
   have HE9 := hid (show Ext wr w' from hq_)
   clear hq_
   by_cases hc : checkE out = 0
   ·rw [if_pos hc] at HRu
    have hcb : (checkE out == 0) = true := beq_iff_eq.2 hc
    rw [hc]
    clear hcb hc
    go_wp2_with fail
    go_ret2
    rw [HRu.out]
    exact ⟨av, out.length, cv, true, rfl, (HE_V.out.trans HX.out).trans HE9.out, rfl, HSl.out.of enE_len HE9.out, fun a' h => by subst h; exact Nat.le_trans HE_V.out.size (HO.out.newb _ _ _ rfl)⟩
   ·rw [if_neg hc] at HRu
    have hcb : (checkE out == 0) = false := beq_eq_false_iff_ne.2 hc
    clear hc
    go_wp2_with fail
    go_ret2
    rw [HRu.out]
    exact UnPost.no av out.length cv rfl ((HE_V.out.trans HX.out).trans HE9.out)
end Go.Proofs.YtiacdohaiidehaaGreatDoor
