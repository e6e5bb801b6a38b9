/- Law 20: awake. -/
import Derived.Test.YtiacdohaiidehaaGreatDoorPk51
namespace Go.Proofs.YtiacdohaiidehaaGreatDoor
set_option linter.unusedSimpArgs false
set_option linter.unusedVariables false
open Go.RowKit Go.Maps
def exIt : List It := [(0, false, true, 6, false), (1, false, true, 8, false)]
theorem exIt_ok : ∀ a ∈ exIt, ItOk a := by
 intro a ha
 simp only [exIt, List.mem_cons, List.not_mem_nil, or_false] at ha
 rcases ha with rfl | rfl <;> exact ⟨⟨by decide, by decide⟩, by decide, by decide⟩
def exE : List En := entsTo [5, 7, 0, 0, 0, 0] [0, 0, 0, 0, 0, 0] exIt 6
theorem exE_len : exE.length = 2 := by kernel_rfl
theorem exE_chk : dcheckN 3 8 1 ((0 : Nat) + 1 : Int) 1 0 exE = 0 := by kernel_rfl
def exL : List Wd := heldFrom exIt ((((0 : Nat) : Int) + 1) * 16777216 + 1) (putD (setTo [5, 7, 0, 0, 0, 0] [0, 0, 0, 0, 0, 0] (firstL 3 8 1) 6) (64 + 0 * 104) (wordsW 1 0 exE)) exE
theorem exL_len : exL.length = 416 := by kernel_rfl
theorem ex_sw (v : Value) : sw20 [5, 7, 0, 0, 0, 0] [0, 0, 0, 0, 0, 0] [(v, exIt)] 0 (setTo [5, 7, 0, 0, 0, 0] [0, 0, 0, 0, 0, 0] (firstL 3 8 1) 6) = some exL := by
 show (if exE.length = 0 then _ else if dcheckN 3 8 1 (((0 : Nat) : Int) + 1) 1 0 exE = 0 then some exL else none) = some exL
 rw [if_neg (by rw [exE_len]; decide), if_pos exE_chk]
theorem exL_mem : ExMem exL := ⟨by rw [exL_len]; decide, by kernel_rfl, by kernel_rfl, by kernel_rfl, by kernel_rfl, by kernel_rfl, by kernel_rfl, by kernel_rfl, by kernel_rfl, by kernel_rfl, by kernel_rfl⟩
theorem ex_few (v : Value) : few20 [(v, exIt)] = true := rfl
theorem ex_ref : refQ 1 0 = 16777217 := by kernel_rfl
theorem ex_k0 : ((cs20 false 1 [0, 0, 0]).map (tkStart (hpK 3 8 1 false chk381)))[0]? = some (exK (hpK 3 8 1 false chk381) id 0) := by
 have h : (cs20 false 1 [0, 0, 0]).map (tkStart (hpK 3 8 1 false chk381)) = [tkStart (hpK 3 8 1 false chk381) (show (hpK 3 8 1 false chk381).C from [hpNew 3 8 1 (refQ 1 0)]), tkStart (hpK 3 8 1 false chk381) (show (hpK 3 8 1 false chk381).C from [hpNew 3 8 1 (refQ 1 0)]), tkStart (hpK 3 8 1 false chk381) (show (hpK 3 8 1 false chk381).C from [hpNew 3 8 1 (refQ 1 0)])] := rfl
 rw [h, ex_ref]
 rfl
theorem ts20_len (dur : Bool) (n : Nat) (l : List Int) : ((cs20 dur n l).map (tkStart (hpK 3 8 1 dur chk381))).length = l.length := by rw [List.length_map, cs20_len]
theorem ts20_set (dur : Bool) (n : Nat) (l : List Int) (i : Nat) (x : Tk (hpK 3 8 1 dur chk381).C) : (((cs20 dur n l).map (tkStart (hpK 3 8 1 dur chk381))).set i x).length = l.length := by rw [List.length_set, ts20_len]
theorem ts20_at (dur : Bool) (n : Nat) (l : List Int) (i : Nat) (hi : i < l.length) (x : Tk (hpK 3 8 1 dur chk381).C) : (((cs20 dur n l).map (tkStart (hpK 3 8 1 dur chk381))).set i x)[i]? = some x := List.getElem?_set_self (by rw [ts20_len]; exact hi)
theorem ex_a17 : (exS 17).2 = (a8Z, true) := by kernel_rfl
theorem ex_k17 : exK (hpK 3 8 1 false chk381) id 17 = ⟨(show (hpK 3 8 1 false chk381).C from (exS 17).1), a8Z, true, exG⟩ := by
 unfold exK
 rw [show (exS 17).2.1 = a8Z from congrArg (·.1) ex_a17, show (exS 17).2.2 = true from congrArg (·.2) ex_a17]
 rfl
theorem it_sl {w : World} {b : Nat} (h : Blk w b [.int .u8 0, .bool false, .bool true, .int .i8 6, .bool false, .int .u8 1, .bool false, .bool true, .int .i8 8, .bool false]) : Sl w 5 itE (.slice (some ⟨b, 0, none⟩) 2 2) exIt := sl_blk (l := exIt) itE_len h (by decide) (by decide)
theorem sw_sl {w : World} {b : Nat} {v : Value} (h : Blk w b [v]) : Sl w 1 swE (.slice (some ⟨b, 0, none⟩) 1 1) [(v, exIt)] := sl_blk (l := [(v, exIt)]) swE_len h (by simp) (by simp)
theorem Szs.lt {w : World} (h : Szs w) : 0 < w.heap.size := World.block_lt_of_cell? w _ (h 0 (by decide))
set_option maxRecDepth 100000 in
set_option maxHeartbeats 1000000 in
theorem awake20_any {w : World} (hs : Szs w) : Calls Tryz.prog 5 #[] w fun e w' => e = .returned (.bool true) ∧ Ext w w' := by
 have HS := hid hs
 have HSz := hid hs.lt
 clear hs
 go_enter Tryz.func5, Tryz.ntmps5
 go_wp2_with fail
 generalize hV_ : World.alloc _ _ = V
 have HE_V := hid (show Ext w V by rw [← hV_]; exact exP)
 have HB_b14 := hid (show Blk V (w.heap.size) [.int .u8 0, .bool false, .bool true, .int .i8 6, .bool false, .int .u8 1, .bool false, .bool true, .int .i8 8, .bool false] by rw [← hV_]; exact bkP)
 have HB_b15 := hid (show Blk V (w.heap.size + 1) [.slice (some ⟨w.heap.size, 0, none⟩) 2 2] by rw [← hV_]; exact bkP)
 have HB_b1 := hid (show Blk V (w.heap.size + 1 + 1) [.int .i8 5, .int .i8 7, .int .i8 0, .int .i8 0, .int .i8 0, .int .i8 0, .int .u8 0, .int .u8 0, .int .u8 0, .int .u8 0, .int .u8 0, .int .u8 0, .slice (some ⟨w.heap.size + 1, 0, none⟩) 1 1] by rw [← hV_]; exact bkP)
 clear hV_
 obtain ⟨b1, hg_b1⟩ : ∃ g, g = w.heap.size + 1 + 1 := ⟨_, rfl⟩
 simp only [← hg_b1] at HB_b1 ⊢
 obtain ⟨b15, hg_b15⟩ : ∃ g, g = w.heap.size + 1 := ⟨_, rfl⟩
 simp only [← hg_b15] at HB_b15 ⊢
 obtain ⟨b14, hg_b14⟩ : ∃ g, g = w.heap.size := ⟨_, rfl⟩
 simp only [← hg_b14] at HB_b14 ⊢
 have HN_V := hid (show b14 = w.heap.size ∧ b15 = w.heap.size + 1 ∧ b1 = w.heap.size + 1 + 1 ∧ b1 < V.heap.size from ⟨hg_b14, hg_b15, hg_b1, HB_b1.out.1⟩)
 clear hg_b14 hg_b15 hg_b1
 have HIt := hid (it_sl HB_b14.out)
 obtain ⟨v15, hv15⟩ : ∃ v, v = Value.slice (some ⟨w.heap.size, 0, none⟩) 2 2 := ⟨_, rfl⟩
 have hv14 : v15 = .slice (some ⟨b14, 0, none⟩) 2 2 := by rw [hv15, HN_V.out.1]
 have HSw := hid (sw_sl (v := v15) (b := b15) (w := V) (by rw [hv15]; exact HB_b15.out))
 have HSk := hid (show ∀ a ∈ [(v15, exIt)], SwOk V a from fun a ha => by rw [List.mem_singleton.1 ha]; exact ⟨by rw [hv14]; exact HIt.out, exIt_ok⟩)
 clear hv14 hv15
 refine (world20_any 5 7 0 0 0 0 0 0 0 0 0 0 (by decide) (by decide) 0 0 0 (by decide) false _ [(v15, exIt)] V (HS.out.of HE_V.out) (Nat.lt_of_lt_of_le HSz.out HE_V.out.size) HSw.out HSk.out (ex_few v15) (by simp) exL (ex_sw v15)).mono ?_
 rintro e w1 ⟨v1, rfl, he, hv⟩
 have HE_1 := hid (HE_V.out.trans he)
 obtain ⟨pa, va, fa, la, sa, ta, ba, pn, pc, vn, vc, fn, fc, ln, lc, sn, sc, tn, tc, bn, bc, rfl, hw⟩ := hv
 have HW := hid (WR.imp (P' := fun b => b = 0 ∨ w.heap.size ≤ b) hw (fun b h => h.imp id (fun h => Nat.le_trans HE_V.out.size h)))
 clear hw he HB_b14 HB_b15 HB_b1 HN_V HIt HSw HSk
 go_wp2_with fail
 generalize hV_ : World.alloc _ _ = X
 have HE_X := hid (show Ext w1 X by rw [← hV_]; exact exP)
 have HB_b2 := hid (show Blk X (w1.heap.size) [.slice pa pn pc, .slice va vn vc, .slice fa fn fc, .slice la ln lc, .map none, .slice sa sn sc, .int .i64 0, .slice ta tn tc, .slice ba bn bc] by rw [← hV_]; exact bkP)
 clear hV_
 obtain ⟨b2, hg_b2⟩ : ∃ g, g = w1.heap.size := ⟨_, rfl⟩
 simp only [← hg_b2] at HB_b2 ⊢
 have HN_X := hid (show b2 = w1.heap.size ∧ b2 < X.heap.size from ⟨hg_b2, HB_b2.out.1⟩)
 clear hg_b2
 refine (ex_alone chk381 (w := X) (P := fun b => (b = 0 ∨ w.heap.size ≤ b) ∧ b < w1.heap.size) (fun b h => by have := HN_X.out; omega) none 0 (HW.out.bnd.of HE_X.out) (GM.start 3 exL (by rw [exL_len]; decide) 52 (by rw [exL_len])) exL_mem (by decide) (by decide) (by decide) (Nat.le_trans (Nat.le_of_eq (ts20_len false 1 [0, 0, 0])) (by decide)) (by decide) rfl ex_k0).mono ?_
 rintro e w2 ⟨v2, rfl, he, m', hg, hv⟩
 obtain ⟨pa1, va1, fa1, la1, sa1, ta1, ba1, pn1, pc1, vn1, vc1, fn1, fc1, ln1, lc1, sn1, sc1, tn1, tc1, bn1, bc1, rfl, hw⟩ := hv
 have HW2 := hid hw
 have HG2 := hid hg
 have HE_2 := hid he
 have h1 := HB_b2.out.of he
 clear hw he hg
 have a0 := (h1).2.2 0 _ rfl
 have a1 := (h1).2.2 1 _ rfl
 have a2 := (h1).2.2 2 _ rfl
 have a3 := (h1).2.2 3 _ rfl
 have a4 := (h1).2.2 4 _ rfl
 have a5 := (h1).2.2 5 _ rfl
 have a6 := (h1).2.2 6 _ rfl
 have a7 := (h1).2.2 7 _ rfl
 have a8 := (h1).2.2 8 _ rfl
 have af := (h1).2.1
 have ag := (h1).1
 clear h1
 go_upto_region 4 with fail
 have hn_ := HN_X.out
 have h_b2 := (HB_b2.out.of HE_2.out)
 generalize hV_ : World.setCell _ _ _ = Y
 have HG_Y := hid (show GrL [b2] w2 Y by rw [← hV_]; exact glP)
 have hz_b2 := hid (show Blk Y b2 [.slice pa1 pn1 pc1, .slice va1 vn1 vc1, .slice fa1 fn1 fc1, .slice la1 ln1 lc1, .map none, .slice sa1 sn1 sc1, .int .i64 0, .slice ta1 tn1 tc1, .slice ba1 bn1 bc1] by rw [← hV_]; exact bcP)
 clear hV_ h_b2
 clear HB_b2
 have HB_b2 := hz_b2
 clear hz_b2
 clear hn_
 clear a0 a1 a2 a3 a4 a5 a6 a7 a8 af ag HW
 have HWY := hid ((HW2.out.bnd.kp (HG_Y.out.kp (fun g hg h => by
  simp only [List.mem_cons, List.not_mem_nil, or_false] at hg
  subst hg
  have := HN_X.out
  rcases h.1 with h | h
  ·have := h.2; omega
  ·omega)))
 )
 have HE_Y := hid (((HE_1.out.trans HE_X.out).trans HE_2.out).grl HG_Y.out (by have h1 := HN_X.out; have h2 := HE_1.out.size; simp; omega))
 obtain rfl : tn1 = 3 := HWY.out.2.1.len.trans (ts20_set false 1 [0, 0, 0] 0 _)
 obtain ⟨r, tb, tof, hta, htb, htp, htr, htc⟩ := HWY.out.2.1.at (i := 0) (t := exK (hpK 3 8 1 false chk381) id 17) (ts20_at false 1 [0, 0, 0] 0 (by decide) _)
 subst hta
 rw [ex_k17] at htr
 obtain ⟨cv, ⟨a0, d⟩, ga, gn, gc⟩ := r
 obtain ⟨hrd, ⟨-, hh, rfl, hhr⟩, hrg⟩ := htr
 dsimp only at hrd hrg htc
 cases hrd
 obtain rfl : gn = 17 := hrg.lenN
 simp only [tkE, nxV, if_true, tkL, a8Z] at htc
 have x0 := htc 0 (by omega)
 have x1 := htc 1 (by omega)
 have x2 := htc 2 (by omega)
 have x3 := htc 3 (by omega)
 have x4 := htc 4 (by omega)
 have x5 := htc 5 (by omega)
 have x6 := htc 6 (by omega)
 have x7 := htc 7 (by omega)
 have x8 := htc 8 (by omega)
 have x9 := htc 9 (by omega)
 have x10 := htc 10 (by omega)
 simp at x0 x1 x2 x3 x4 x5 x6 x7 x8 x9 x10
 have HSt := hid (fun (W : World) => hp_Status_st hhr W)
 rw [show (hpStat (exS 17).1) = (1, true) from ex_end.2] at HSt
 obtain ⟨cv, hcv⟩ : ∃ v : Value, v = .iface hpT (.agg (hL hh).toArray) := ⟨_, rfl⟩
 rw [show (hpK 3 8 1 false chk381).T = hpT from rfl] at x0
 rw [← hcv] at x0 HSt
 have HWd0 := hid (fun (W : World) (he : Ext Y W) => gword_any none 0 (HWY.out.1.of he) HG2.out (by decide) 56 6 1 0 (exM_c0 exL_mem))
 have HWd1 := hid (fun (W : World) (he : Ext Y W) => gword_any none 0 (HWY.out.1.of he) HG2.out (by decide) 57 8 1 0 (exM_c1 exL_mem))
 have HCl0 := hid (fun (W : World) (he : Ext w W) => by have h := cell_any 3 8 1 0 W (HS.out.of he); rw [show atN 3 8 1 3 0 0 = 56 from cell31 0 (by decide)] at h; exact h)
 have HCl1 := hid (fun (W : World) (he : Ext w W) => by have h := cell_any 3 8 1 1 W (HS.out.of he); rw [show atN 3 8 1 3 1 0 = 57 from cell31 1 (by decide)] at h; exact h)
 clear htc htp hrg hcv hhr
 have a0 := (HB_b2.out).2.2 0 _ rfl
 have a1 := (HB_b2.out).2.2 1 _ rfl
 have a2 := (HB_b2.out).2.2 2 _ rfl
 have a3 := (HB_b2.out).2.2 3 _ rfl
 have a4 := (HB_b2.out).2.2 4 _ rfl
 have a5 := (HB_b2.out).2.2 5 _ rfl
 have a6 := (HB_b2.out).2.2 6 _ rfl
 have a7 := (HB_b2.out).2.2 7 _ rfl
 have a8 := (HB_b2.out).2.2 8 _ rfl
 have af := (HB_b2.out).2.1
 have ag := (HB_b2.out).1
 go_wp2_with fail
 refine (htsteps_any cv .nilFunc ⟨0, 0, (0, 0, 0), (0, 0, 0)⟩ ga 17 gc Y).mono ?_
 rintro e w3 ⟨rfl, he3⟩
 have HE3 := hid (show Ext Y w3 from he3)
 have y0 := HE3.out.cell x0
 have y1 := HE3.out.cell x1
 have y2 := HE3.out.cell x2
 have y3 := HE3.out.cell x3
 have y4 := HE3.out.cell x4
 have y5 := HE3.out.cell x5
 have y6 := HE3.out.cell x6
 have y7 := HE3.out.cell x7
 have y8 := HE3.out.cell x8
 have y9 := HE3.out.cell x9
 have y10 := HE3.out.cell x10
 have h1 := HB_b2.out.of HE3.out
 have yt := Nat.lt_of_lt_of_le htb HE3.out.size
 clear he3 a0 a1 a2 a3 a4 a5 a6 a7 a8 af ag x0 x1 x2 x3 x4 x5 x6 x7 x8 x9 x10
 have a0 := (h1).2.2 0 _ rfl
 have a1 := (h1).2.2 1 _ rfl
 have a2 := (h1).2.2 2 _ rfl
 have a3 := (h1).2.2 3 _ rfl
 have a4 := (h1).2.2 4 _ rfl
 have a5 := (h1).2.2 5 _ rfl
 have a6 := (h1).2.2 6 _ rfl
 have a7 := (h1).2.2 7 _ rfl
 have a8 := (h1).2.2 8 _ rfl
 have af := (h1).2.1
 have ag := (h1).1
 clear h1
 go_wp2_with fail
 refine (tcode_any cv .nilFunc ⟨0, 0, (0, 0, 0), (0, 0, 0)⟩ ga 17 gc w3).mono ?_
 rintro e w4 ⟨rfl, he4⟩
 have HE4 := hid (HE3.out.trans (show Ext w3 w4 from he4))
 go_wp2_with fail
 refine (HSt.out w4).mono ?_
 rintro e w5 ⟨rfl, he5⟩
 have HEy := hid (HE4.out.trans he5)
 clear he4 he5 a0 a1 a2 a3 a4 a5 a6 a7 a8 af ag y0 y1 y2 y3 y4 y5 y6 y7 y8 y9 y10 yt
 have h1 := HB_b2.out.of HEy.out
 have y0 := (h1).2.2 0 _ rfl
 have y1 := (h1).2.2 1 _ rfl
 have y2 := (h1).2.2 2 _ rfl
 have y3 := (h1).2.2 3 _ rfl
 have y4 := (h1).2.2 4 _ rfl
 have y5 := (h1).2.2 5 _ rfl
 have y6 := (h1).2.2 6 _ rfl
 have y7 := (h1).2.2 7 _ rfl
 have y8 := (h1).2.2 8 _ rfl
 have yf := (h1).2.1
 have yg := (h1).1
 clear h1 yf
 have HW_ := hid (HE_Y.out.trans HEy.out)
 have HWy_ := hid HEy.out
 go_upto_region 7 with fail
 have HL_ := hid (fun w' (h : Ext w5 w') => (And.intro (Nat.lt_of_lt_of_le yg h.size) (And.intro (h.cell y0) (And.intro (h.cell y1) (And.intro (h.cell y2) (And.intro (h.cell y3) (And.intro (h.cell y4) (And.intro (h.cell y5) (h.cell y6)))))))))
 refine wp_region_late [58, 59, 60, 61, 62, 57, 63, 64, 7] [0, 1, 2, 3, 4, 5, 6, 7, 8] [7] rfl (fun w' => Ext w5 w') (fsAt [IsV ?_, IsV ?_, IsV (.agg #[.int .i64 3, .int .i64 8, .int .i64 1]), IsV (.int .i64 56), IsV (.tuple #[.agg #[.int .i64 6, .int .u32 1, .int .u32 0], .bool true]), IsV (.tuple #[.agg #[.int .i64 6, .int .u32 1, .int .u32 0], .bool true]), IsV ?_, IsV (.bool true), (fun v w' => ∃ b, v = .pointer (some ⟨b, 0, none⟩) ∧ w'.heap[b]? = some (.cells #[.int .i64 0, .int .u32 0, .int .u32 0] 44 (0, 0)) ∧ w5.heap.size ≤ b)]) (by kernel_rfl) (by kernel_rfl) (fun _ _ _ _ _ h => h) ((Ext.refl _).drew) (fun w w' h he => h.trans he) (aC (fun _ _ _ h _ => h) (aC (fun _ _ _ h _ => h) (aC (fun _ _ _ h _ => h) (aC (fun _ _ _ h _ => h) (aC (fun _ _ _ h _ => h) (aC (fun _ _ _ h _ => h) (aC (fun _ _ _ h _ => h) (aC (fun _ _ _ h _ => h) (aC (fun _ _ _ h he => by obtain ⟨q, h1, h2, h3⟩ := h; exact ⟨q, h1, heap_of_ext he h2, h3⟩) (AllOn.nil)))))))))) (aC ?_ (AllOn.nil)) (aC ?_ (aC ?_ (aC ?_ (aC ?_ (aC ?_ (aC ?_ (aC ?_ (aC ?_ (aC ?_ (AllOn.nil)))))))))) ?_
 rotate_left 3
 ·intro A w cx hO hD
  have e57 := evD (hD 5 (by kernel_rfl) 57 rfl)
  clear hD hO
  exact late_val (o := ⟨_, _, _, _, _, _⟩) rfl _ rfl (fun w => by simp [go_sem, e57]) rfl
 ·intro A w cx hO hD
  have e2 := evO hO 2 rfl
  clear hD hO
  refine hdV rfl ?_ rfl rfl ?_ ?_
  rotate_left 1
  ·simp [go_sem, e2, cx, HL_.out w cx]
   try with_reducible rfl
  ·exact IsV.mk (w := w)
 ·intro A w cx hO hD
  have e58 := evD (hD 0 (by kernel_rfl) 58 rfl)
  clear hD hO
  refine hdV rfl ?_ rfl rfl ?_ ?_
  rotate_left 1
  ·simp [go_sem, e58, cx, HL_.out w cx]
   try with_reducible rfl
  ·exact IsV.mk (w := w)
 ·intro A w cx hO hD
  clear hD hO
  refine hdW rfl rfl ?_
  simp [go_sem]
  refine (plan20_any _).mono ?_
  rintro e w' ⟨rfl, r_, rfl⟩
  exact ⟨_, rfl, ⟨r_, rfl⟩, rfl⟩
 ·intro A w cx hO hD
  have e60 := evD (hD 2 (by kernel_rfl) 60 rfl)
  clear hD hO
  refine hdW rfl rfl ?_
  simp [go_sem, e60]
  refine (HCl0.out _ (HW_.out.trans cx)).mono ?_
  rintro e w' ⟨rfl, r_, rfl⟩
  exact ⟨_, rfl, ⟨r_, rfl⟩, rfl⟩
 ·intro A w cx hO hD
  have e59 := evD (hD 1 (by kernel_rfl) 59 rfl)
  have e61 := evD (hD 3 (by kernel_rfl) 61 rfl)
  clear hD hO
  refine hdW rfl rfl ?_
  simp [go_sem, e59, e61]
  refine (HWd0.out _ (HWy_.out.trans cx)).mono ?_
  rintro e w' ⟨rfl, hx_⟩
  exact ⟨_, rfl, hx_, rfl⟩
 ·intro A w cx hO hD
  have e62 := evD (hD 4 (by kernel_rfl) 62 rfl)
  clear hD hO
  refine hdW rfl rfl ?_
  simp [go_sem, e62]
  exact ⟨_, rfl, Ext.refl _, rfl⟩
 ·intro A w cx hO hD
  have e57 := evD (hD 5 (by kernel_rfl) 57 rfl)
  clear hD hO
  refine hdV rfl ?_ rfl rfl ?_ ?_
  rotate_left 1
  ·simp [go_sem, e57, cx, HL_.out w cx]
   try with_reducible rfl
  ·exact IsV.mk (w := w)
 ·intro A w cx hO hD
  have e57 := evD (hD 5 (by kernel_rfl) 57 rfl)
  clear hD hO
  refine hdW rfl rfl ?_
  simp [go_sem, e57]
  exact ⟨_, rfl, Ext.refl _, rfl⟩
 ·intro A w cx hO hD
  clear hD hO
  refine hdW rfl rfl ?_
  simp [go_sem]
  exact ⟨_, rfl, Ext.of_alloc _ _, _, rfl, heap_new rfl, cx.size⟩
 intro u wx hC hF
 obtain ⟨f0, f1, f2, f3, f4, f5, f6, f7, f8, _⟩ := hF
 have g0 : u 0 = _ := f0
 have g1 : u 1 = _ := f1
 have g2 : u 2 = _ := f2
 have g3 : u 3 = _ := f3
 have g4 : u 4 = _ := f4
 have g5 : u 5 = _ := f5
 have g6 : u 6 = _ := f6
 have g7 : u 7 = _ := f7
 obtain ⟨v8, g8⟩ : ∃ v, u 8 = v := ⟨_, rfl⟩
 rw [g8] at f8
 simp only [fPut, Nat.zero_add, Nat.reduceAdd, g0, g1, g2, g3, g4, g5, g6, g7, g8, Act.put, List.setIfInBounds_toArray, List.set_cons_zero, List.set_cons_succ, List.length_cons, List.length_nil, List.drop_succ_cons, List.drop_zero]
 clear g0 g1 g2 g3 g4 g5 g6 g7 g8 f0 f1 f2 f3 f4 f5 f6 f7
 obtain ⟨b7, rfl, h81, h82⟩ := f8
 have HBn_ := hid (show Blk wx b7 [.int .i64 0, .int .u32 0, .int .u32 0] from blk_heap h81)
 have HC_ := hid hC
 have HNn_ := hid h82
 clear hC h81 h82 y0 y1 y2 y3 y4 y5 y6 yg
 obtain ⟨k0, k1, k2⟩ := HBn_.out.three
 have kf := HBn_.out.2.1
 have kg := HBn_.out.1
 have HE7 := hid (HEy.out.trans HC_.out)
 have HB7_ := HBn_
 have HN7 := hid (show b2 < b7 ∧ Y.heap.size ≤ b7 by have h1 := HNn_.out; have h2 := HEy.out.size; have h3 := HB_b2.out.1; omega)
 clear HC_ HNn_ HW_ HWy_
 go_upto_region 8 with fail
 generalize hV_ : World.setCell _ _ _ = Z
 have HG_Z := hid (show GrL [b7] wx Z by rw [← hV_]; exact glP)
 have HBZ := hid (show Blk Z b7 [.int .i64 6, .int .u32 1, .int .u32 0] by rw [← hV_]; have h8 := HBn_.out; exact bcP)
 clear hV_ k0 k1 k2 kf kg HBn_ HB7_
 have HEZ := hid (HE7.out.grl HG_Z.out (by have := HN7.out; simp; omega))
 have h1 := HB_b2.out.of HEZ.out
 have y0 := h1.2.2 0 _ rfl
 have y1 := h1.2.2 1 _ rfl
 have y2 := h1.2.2 2 _ rfl
 have y3 := h1.2.2 3 _ rfl
 have y4 := h1.2.2 4 _ rfl
 have y5 := h1.2.2 5 _ rfl
 have y6 := h1.2.2 6 _ rfl
 have yg := h1.1
 clear h1
 have HW_ := hid (HE_Y.out.trans HEZ.out)
 have HWy_ := hid HEZ.out
 have HL_ := hid (fun w' (h : Ext Z w') => (And.intro (Nat.lt_of_lt_of_le yg h.size) (And.intro (h.cell y0) (And.intro (h.cell y1) (And.intro (h.cell y2) (And.intro (h.cell y3) (And.intro (h.cell y4) (And.intro (h.cell y5) (h.cell y6)))))))))
 refine wp_region_late [66, 67, 68, 69, 70, 65, 71, 72, 9] [0, 1, 2, 3, 4, 5, 6, 7, 8] [7] rfl (fun w' => Ext Z w') (fsAt [IsV ?_, IsV ?_, IsV (.agg #[.int .i64 3, .int .i64 8, .int .i64 1]), IsV (.int .i64 57), IsV (.tuple #[.agg #[.int .i64 8, .int .u32 1, .int .u32 0], .bool true]), IsV (.tuple #[.agg #[.int .i64 8, .int .u32 1, .int .u32 0], .bool true]), IsV ?_, IsV (.bool true), (fun v w' => ∃ b, v = .pointer (some ⟨b, 0, none⟩) ∧ w'.heap[b]? = some (.cells #[.int .i64 0, .int .u32 0, .int .u32 0] 44 (0, 0)) ∧ Z.heap.size ≤ b)]) (by kernel_rfl) (by kernel_rfl) (fun _ _ _ _ _ h => h) ((Ext.refl _).drew) (fun w w' h he => h.trans he) (aC (fun _ _ _ h _ => h) (aC (fun _ _ _ h _ => h) (aC (fun _ _ _ h _ => h) (aC (fun _ _ _ h _ => h) (aC (fun _ _ _ h _ => h) (aC (fun _ _ _ h _ => h) (aC (fun _ _ _ h _ => h) (aC (fun _ _ _ h _ => h) (aC (fun _ _ _ h he => by obtain ⟨q, h1, h2, h3⟩ := h; exact ⟨q, h1, heap_of_ext he h2, h3⟩) (AllOn.nil)))))))))) (aC ?_ (AllOn.nil)) (aC ?_ (aC ?_ (aC ?_ (aC ?_ (aC ?_ (aC ?_ (aC ?_ (aC ?_ (aC ?_ (AllOn.nil)))))))))) ?_
 rotate_left 3
 ·intro A w cx hO hD
  have e65 := evD (hD 5 (by kernel_rfl) 65 rfl)
  clear hD hO
  exact late_val (o := ⟨_, _, _, _, _, _⟩) rfl _ rfl (fun w => by simp [go_sem, e65]) rfl
 ·intro A w cx hO hD
  have e2 := evO hO 2 rfl
  clear hD hO
  refine hdV rfl ?_ rfl rfl ?_ ?_
  rotate_left 1
  ·simp [go_sem, e2, cx, HL_.out w cx]
   try with_reducible rfl
  ·exact IsV.mk (w := w)
 ·intro A w cx hO hD
  have e66 := evD (hD 0 (by kernel_rfl) 66 rfl)
  clear hD hO
  refine hdV rfl ?_ rfl rfl ?_ ?_
  rotate_left 1
  ·simp [go_sem, e66, cx, HL_.out w cx]
   try with_reducible rfl
  ·exact IsV.mk (w := w)
 ·intro A w cx hO hD
  clear hD hO
  refine hdW rfl rfl ?_
  simp [go_sem]
  refine (plan20_any _).mono ?_
  rintro e w' ⟨rfl, r_, rfl⟩
  exact ⟨_, rfl, ⟨r_, rfl⟩, rfl⟩
 ·intro A w cx hO hD
  have e68 := evD (hD 2 (by kernel_rfl) 68 rfl)
  clear hD hO
  refine hdW rfl rfl ?_
  simp [go_sem, e68]
  refine (HCl1.out _ (HW_.out.trans cx)).mono ?_
  rintro e w' ⟨rfl, r_, rfl⟩
  exact ⟨_, rfl, ⟨r_, rfl⟩, rfl⟩
 ·intro A w cx hO hD
  have e67 := evD (hD 1 (by kernel_rfl) 67 rfl)
  have e69 := evD (hD 3 (by kernel_rfl) 69 rfl)
  clear hD hO
  refine hdW rfl rfl ?_
  simp [go_sem, e67, e69]
  refine (HWd1.out _ (HWy_.out.trans cx)).mono ?_
  rintro e w' ⟨rfl, hx_⟩
  exact ⟨_, rfl, hx_, rfl⟩
 ·intro A w cx hO hD
  have e70 := evD (hD 4 (by kernel_rfl) 70 rfl)
  clear hD hO
  refine hdW rfl rfl ?_
  simp [go_sem, e70]
  exact ⟨_, rfl, Ext.refl _, rfl⟩
 ·intro A w cx hO hD
  have e65 := evD (hD 5 (by kernel_rfl) 65 rfl)
  clear hD hO
  refine hdV rfl ?_ rfl rfl ?_ ?_
  rotate_left 1
  ·simp [go_sem, e65, cx, HL_.out w cx]
   try with_reducible rfl
  ·exact IsV.mk (w := w)
 ·intro A w cx hO hD
  have e65 := evD (hD 5 (by kernel_rfl) 65 rfl)
  clear hD hO
  refine hdW rfl rfl ?_
  simp [go_sem, e65]
  exact ⟨_, rfl, Ext.refl _, rfl⟩
 ·intro A w cx hO hD
  clear hD hO
  refine hdW rfl rfl ?_
  simp [go_sem]
  exact ⟨_, rfl, Ext.of_alloc _ _, _, rfl, heap_new rfl, cx.size⟩
 intro u wx hC hF
 obtain ⟨f0, f1, f2, f3, f4, f5, f6, f7, f8, _⟩ := hF
 have g0 : u 0 = _ := f0
 have g1 : u 1 = _ := f1
 have g2 : u 2 = _ := f2
 have g3 : u 3 = _ := f3
 have g4 : u 4 = _ := f4
 have g5 : u 5 = _ := f5
 have g6 : u 6 = _ := f6
 have g7 : u 7 = _ := f7
 obtain ⟨v8, g8⟩ : ∃ v, u 8 = v := ⟨_, rfl⟩
 rw [g8] at f8
 simp only [fPut, Nat.zero_add, Nat.reduceAdd, g0, g1, g2, g3, g4, g5, g6, g7, g8, Act.put, List.setIfInBounds_toArray, List.set_cons_zero, List.set_cons_succ, List.length_cons, List.length_nil, List.drop_succ_cons, List.drop_zero]
 clear g0 g1 g2 g3 g4 g5 g6 g7 g8 f0 f1 f2 f3 f4 f5 f6 f7
 obtain ⟨b9, rfl, h81, h82⟩ := f8
 have HBn_ := hid (show Blk wx b9 [.int .i64 0, .int .u32 0, .int .u32 0] from blk_heap h81)
 have HC_ := hid hC
 have HNn_ := hid h82
 clear hC h81 h82 y0 y1 y2 y3 y4 y5 y6 yg
 obtain ⟨k0, k1, k2⟩ := HBn_.out.three
 have kf := HBn_.out.2.1
 have kg := HBn_.out.1
 have HE9 := hid (HEZ.out.trans HC_.out)
 have HN9 := hid (show b2 < b9 ∧ Y.heap.size ≤ b9 by have h1 := HNn_.out; have h2 := HEZ.out.size; have h3 := HB_b2.out.1; omega)
 have HB7w := hid (HBZ.out.of HC_.out)
 have HN79 := hid (show b7 < b9 by have h1 := HNn_.out; have h2 := HBZ.out.1; omega)
 clear HC_ HNn_ HW_ HWy_
 go_upto_region 9 with fail
 generalize hV_ : World.setCell _ _ _ = Z9
 have HG_9 := hid (show GrL [b9] wx Z9 by rw [← hV_]; exact glP)
 have HB9 := hid (show Blk Z9 b9 [.int .i64 8, .int .u32 1, .int .u32 0] by rw [← hV_]; have h8 := HBn_.out; exact bcP)
 clear hV_ k0 k1 k2 kf kg HBn_
 have HE9z := hid (HE9.out.grl HG_9.out (by have := HN9.out; simp; omega))
 have HB7z := hid (HB7w.out.grl HG_9.out (by have := HN79.out; simp; omega))
 obtain ⟨k0, k1, k2⟩ := HB7z.out.three
 obtain ⟨l0, l1, l2⟩ := HB9.out.three
 have kg := HB7z.out.1
 have lg := HB9.out.1
 have he1 := eq_word 6 1 0 6 1 0
 have he2 := eq_word 8 1 0 8 1 0
 rw [wdB_self] at he1 he2
 go_wp2_with fail
 go_ret
 exact ⟨rfl, (HE_Y.out.trans HE9z.out).trans (by exact exP)⟩
end Go.Proofs.YtiacdohaiidehaaGreatDoor
