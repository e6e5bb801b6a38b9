/- Walks: redo's New and Finished; the chapter's example (law 25's awake). -/
import Derived.Test.YtdpbcfjfnclpiaaDoorPk45
import Derived.Test.YtdpbcfjfnclpiaaDoorPk26
namespace Go.Proofs.YtdpbcfjfnclpiaaDoor
set_option linter.unusedSimpArgs false
set_option linter.unusedVariables false
open Go.RowKit
def codeV (t c b : Int) (a1 a2 a3 : Option Addr) (n1 c1 n2 c2 n3 c3 : Nat) : Value := .agg #[.int .i64 t, .int .i64 c, .int .i64 b, .slice a1 n1 c1, .slice a2 n2 c2, .slice a3 n3 c3, .int .i64 0, .int .i64 0, .slice none 0 0, .slice none 0 0, .slice none 0 0, .slice none 0 0, .bool false, .bool false]
def aw25E : List En := [⟨40, 5, 2, 0, 9, true⟩]
def aw25D : List Wd := wordsW 3 1 aw25E
def aw25W : List Wd := ((putL (firstL 2 8 0) aw25D 48 5).set 40 (5, 2, 16777219)).set 152 (0, 4, 0)
def aw25X : List Wd := redoL 2 8 0 aw25W
theorem aw25_check : checkN 2 8 0 = 0 := by kernel_rfl
theorem aw25_size : sizeN 2 8 0 = 256 := by kernel_rfl
theorem aw25_first : (firstL 2 8 0).length = 256 := by kernel_rfl
theorem aw25_dl : aw25D.length = 5 := by kernel_rfl
theorem aw25_dc : dcheckN 2 8 0 1 3 1 aw25E = 0 := by kernel_rfl
theorem aw25_wl : aw25W.length = 256 := by kernel_rfl
theorem aw25_redo : redoN 2 8 0 aw25W = (aw25X, 0) := by
 unfold redoN
 rw [if_neg (by rintro (h | h); exact h aw25_check; rw [aw25_wl, aw25_size] at h; omega)]
 rfl
theorem aw25_xl : aw25X.length = 256 := by unfold aw25X redoL; rw [redoW_len]; exact aw25_wl
theorem aw25_x40 : aw25X[40]? = some (9, 3, 0) := by kernel_rfl
theorem aw25_x152 : aw25X[152]? = some (2, 4, 0) := by kernel_rfl
theorem aw25_cx : cleanN 2 8 0 aw25X = true := by kernel_rfl
theorem aw25_cw : cleanN 2 8 0 aw25W = false := by kernel_rfl
theorem aw25_okB : aw25W.all (fun a => decide ((-9223372036854775808 ≤ a.1 ∧ a.1 ≤ 9223372036854775807) ∧ (0 ≤ a.2.1 ∧ a.2.1 ≤ 4294967295) ∧ (0 ≤ a.2.2 ∧ a.2.2 ≤ 4294967295))) = true := by kernel_rfl
theorem aw25_ok : ∀ a ∈ aw25W, WdOk a := by
 intro a ha
 have := List.all_eq_true.1 aw25_okB a ha
 rw [decide_eq_true_eq] at this
 exact this
theorem aw25_okE : ∀ e ∈ aw25E, EnOk e := by
 intro e he
 simp only [aw25E, List.mem_cons, List.not_mem_nil, or_false] at he
 subst he
 exact ⟨by decide, by decide, by decide, by decide, by decide, by decide, by decide, by decide, by decide, by decide⟩
theorem aw25_c0 : atN 2 8 0 3 0 0 = 40 := by kernel_rfl
theorem aw25_s1 : atN 2 8 0 4 (wrap64 (1 - 1)) 0 = 48 := by kernel_rfl
theorem aw25_s2 : atN 2 8 0 4 (wrap64 (2 - 1)) 0 = 152 := by kernel_rfl
set_option maxRecDepth 100000 in
set_option maxHeartbeats 4000000 in
theorem awake25_any (w : World) (hs : Szs w) : Calls Tryd.prog 4 #[] w fun y w' => y = .returned (.bool true) ∧ ∃ r, w' = ext w r := by
 have HS := hid hs
 clear hs
 go_enter Tryd.func4, Tryd.ntmps4
 go_wp2_with fail
 refine (first_any 2 8 0 _ (HS.out.of (by (show Ext _ _; repeat first | (with_reducible first | (refine xH ?_; assumption) | exact xR _ | refine xX ?_ _ | refine xA ?_ _) | refine xD ?_ | refine xN ?_ _ | exact xR _)))).mono ?_
 rintro e w' ⟨v8, rfl, ⟨r1, rfl⟩, hv8⟩
 obtain ⟨g, c8, rfl, hgl, hgs⟩ := Ws.open hv8 (by rw [aw25_first]; omega)
 rw [aw25_first] at hv8 ⊢
 go_wp2_with fail
 refine (size_any 2 8 0 _ (HS.out.of (by (show Ext _ _; repeat first | (with_reducible first | (refine xH ?_; assumption) | exact xR _ | refine xX ?_ _ | refine xA ?_ _) | refine xD ?_ | refine xN ?_ _ | exact xR _)))).mono ?_
 rintro e w' ⟨rfl, r2, rfl⟩
 rw [aw25_size]
 go_upto_region 5 with fail
 generalize hU : ext _ r2 = U at *
 have HEU := hid (show Ext w U by rw [← hU]; (show Ext _ _; repeat first | (with_reducible first | (refine xH ?_; assumption) | exact xR _ | refine xX ?_ _ | refine xA ?_ _) | refine xD ?_ | refine xN ?_ _ | exact xR _))
 have HBl := hid (show Blk U w.heap.size [.int .i64 2, .int .i64 8, .int .i64 0] by rw [← hU]; (show Blk _ _ _; repeat first | (with_reducible first | (refine xH ?_; assumption) | refine bD ?_ | refine bX ?_ _) | (with_reducible refine bN _ _ rfl ?_; first | with_reducible rfl | (simp; done)) | (with_reducible first | refine bA ?_ _ | assumption | apply bS) | (with_reducible refine bO ?_ ?_; first | omega | (simp; omega)) | (show List.set _ _ _ = _; exact rfl) | (show _ < List.length _; simp; done)))
 have HLU := hid (show Ws U w.heap.size (.slice (some ⟨g, 0, none⟩) 256 c8) (firstL 2 8 0) from by
  have h := Own.mono hv8 (show w.heap.size ≤ _ by simp)
  rw [← hU]
  exact Ws.of h (by (show Ext _ _; repeat first | (with_reducible first | (refine xH ?_; assumption) | exact xR _ | refine xX ?_ _ | refine xA ?_ _) | refine xD ?_ | refine xN ?_ _ | exact xR _)))
 have hgw : w.heap.size < g := by simp at hgl; omega
 have hgU : g < U.heap.size := by rw [← hU]; simp at hgs ⊢; omega
 clear hU hv8 hgl hgs
 refine wp_region_held_drew (S := fun w' => w'.cell? ⟨w.heap.size, 0, none⟩ = some (.int .i64 2) ∧ w'.cell? ⟨w.heap.size, 1, none⟩ = some (.int .i64 8) ∧ w'.cell? ⟨w.heap.size, 2, none⟩ = some (.int .i64 0)) (by kernel_rfl) (by exact (HBl.out.of (show Ext U _ by (show Ext _ _; repeat with_reducible first | (refine xH ?_; assumption) | exact xR _ | refine xX ?_ _ | refine xA ?_ _ | refine xD ?_ | refine xS ?_ (by (try dsimp only); first | omega | (simp; done) | (simp; omega)) _))).three) (fun hHeld => ?_)
 refine take_met 0 (oi := ⟨_, _, _, _, _, _⟩) (v := ?_) (by kernel_rfl) rfl (by rfl) (fun _ _ _ h => h) (by assumption) ?_ ?_
 rotate_left 1
 ·intro w hSw
  try dsimp only at hSw
  go_simp
  try with_reducible rfl
 (try simp only [Act.put, pA, pB, pC])
 refine take_met 1 (oi := ⟨_, _, _, _, _, _⟩) (v := ?_) (by kernel_rfl) rfl (by rfl) (fun _ _ _ h => h) (by assumption) ?_ ?_
 rotate_left 1
 ·intro w hSw
  try dsimp only at hSw
  go_simp
  try with_reducible rfl
 (try simp only [Act.put, pA, pB, pC])
 refine take_met 3 (oi := ⟨_, _, _, _, _, _⟩) (v := ?_) (by kernel_rfl) rfl (by rfl) (fun _ _ _ h => h) (by assumption) ?_ ?_
 rotate_left 1
 ·intro w hSw
  try dsimp only at hSw
  go_simp
  try with_reducible rfl
 (try simp only [Act.put, pA, pB, pC])
 refine take_only 2 (oi := ⟨_, _, _, _, _, _⟩) (by kernel_rfl) rfl (fun K hK => ?_)
 go_simp
 first
  | (go_at_call 16; refine (cell_any 2 8 0 0 _ (HS.out.of (HEU.out.trans (by (show Ext _ _; repeat first | (with_reducible first | (refine xH ?_; assumption) | exact xR _ | refine xX ?_ _ | refine xA ?_ _) | refine xD ?_ | refine xN ?_ _ | exact xR _))))).mono ?_; rintro e w' ⟨rfl, r3, rfl⟩; rw [aw25_c0])
 have hOld := hHeld
 clear hHeld
 refine hK.out _ _ (by exact (HBl.out.of (show Ext U _ by (show Ext _ _; repeat with_reducible first | (refine xH ?_; assumption) | exact xR _ | refine xX ?_ _ | refine xA ?_ _ | refine xD ?_ | refine xS ?_ (by (try dsimp only); first | omega | (simp; done) | (simp; omega)) _))).three) (fun hHeld => ?_)
 clear hOld hK K
 (try simp only [Act.put, pA, pB, pC])
 refine take_met 4 (oi := ⟨_, _, _, _, _, _⟩) (v := ?_) (by kernel_rfl) rfl (by rfl) (fun _ _ _ h => h) (by assumption) ?_ ?_
 rotate_left 1
 ·intro w hSw
  try dsimp only at hSw
  go_simp
  try with_reducible rfl
 (try simp only [Act.put, pA, pB, pC])
 refine take_only 5 (oi := ⟨_, _, _, _, _, _⟩) (by kernel_rfl) rfl (fun K hK => ?_)
 go_simp
 have hOld := hHeld
 clear hHeld
 refine hK.out _ _ (by exact (HBl.out.of (show Ext U _ by (show Ext _ _; repeat with_reducible first | (refine xH ?_; assumption) | exact xR _ | refine xX ?_ _ | refine xA ?_ _ | refine xD ?_ | refine xS ?_ (by (try dsimp only); first | omega | (simp; done) | (simp; omega)) _))).three) (fun hHeld => ?_)
 clear hOld hK K
 (try simp only [Act.put, pA, pB, pC])
 refine take_met 6 (oi := ⟨_, _, _, _, _, _⟩) (v := ?_) (by kernel_rfl) rfl (by rfl) (fun _ _ _ h => h) (by assumption) ?_ ?_
 rotate_left 1
 ·intro w hSw
  try dsimp only at hSw
  go_simp
  try with_reducible rfl
 (try simp only [Act.put, pA, pB, pC])
 refine take_only 7 (oi := ⟨_, _, _, _, _, _⟩) (by kernel_rfl) rfl (fun K hK => ?_)
 go_simp
 first
  | (go_at_call 15; refine (dwords_any 2 8 0 1 3 1 (by omega) (by omega) aw25E _ aw25_okE _ ?_ ?_).mono ?_; exact HS.out.of (HEU.out.trans (by (show Ext _ _; repeat first | (with_reducible first | (refine xH ?_; assumption) | exact xR _ | refine xX ?_ _ | refine xA ?_ _) | refine xD ?_ | refine xN ?_ _ | exact xR _))); have hes := Own.made (w := ext U r3) (e := 67) (enc := enE) (size := 6) (base := 0) #[.int .i64 40, .int .i64 5, .int .u32 2, .int .u32 0, .int .i64 9, .bool true] aw25E 1 rfl (Nat.zero_le _) (by unfold maxLen; omega) rfl rfl; simp only [size_ext] at hes; exact Sl.of_own enE_len hes; rintro y w' ⟨v13, rfl, ⟨r4, rfl⟩, hv13⟩; rw [if_pos aw25_dc] at hv13; rw [aw25_dc])
 have hOld := hHeld
 clear hHeld
 refine hK.out _ _ (by exact (HBl.out.of (show Ext U _ by (show Ext _ _; repeat with_reducible first | (refine xH ?_; assumption) | exact xR _ | refine xX ?_ _ | refine xA ?_ _ | refine xD ?_ | refine xS ?_ (by (try dsimp only); first | omega | (simp; done) | (simp; omega)) _))).three) (fun hHeld => ?_)
 clear hOld hK K
 (try simp only [Act.put, pA, pB, pC])
 refine take_met 8 (oi := ⟨_, _, _, _, _, _⟩) (v := ?_) (by kernel_rfl) rfl (by rfl) (fun _ _ _ h => h) (by assumption) ?_ ?_
 rotate_left 1
 ·intro w hSw
  try dsimp only at hSw
  go_simp
  try with_reducible rfl
 (try simp only [Act.put, pA, pB, pC])
 refine take_met 9 (oi := ⟨_, _, _, _, _, _⟩) (v := ?_) (by kernel_rfl) rfl (by rfl) (fun _ _ _ h => h) (by assumption) ?_ ?_
 rotate_left 1
 ·intro w hSw
  try dsimp only at hSw
  go_simp
  try with_reducible rfl
 (try simp only [Act.put, pA, pB, pC])
 refine take_met 10 (oi := ⟨_, _, _, _, _, _⟩) (v := ?_) (by kernel_rfl) rfl (by rfl) (fun _ _ _ h => h) (by assumption) ?_ ?_
 rotate_left 1
 ·intro w hSw
  try dsimp only at hSw
  go_simp
  try with_reducible rfl
 (try simp only [Act.put, pA, pB, pC])
 refine take_met 11 (oi := ⟨_, _, _, _, _, _⟩) (v := ?_) (by kernel_rfl) rfl (by rfl) (fun _ _ _ h => h) (by assumption) ?_ ?_
 rotate_left 1
 ·intro w hSw
  try dsimp only at hSw
  go_simp
  try with_reducible rfl
 (try simp only [Act.put, pA, pB, pC])
 refine take_met 12 (oi := ⟨_, _, _, _, _, _⟩) (v := ?_) (by kernel_rfl) rfl (by rfl) (fun _ _ _ h => h) (by assumption) ?_ ?_
 rotate_left 1
 ·intro w hSw
  try dsimp only at hSw
  go_simp
  try with_reducible rfl
 (try simp only [Act.put, pA, pB, pC])
 refine wpAnyH_done (by kernel_rfl) ?_ _
 clear hHeld
 obtain ⟨g13, c13, rfl, hg13, hgs13⟩ := Ws.open hv13 (by show 0 < aw25D.length; rw [aw25_dl]; omega)
 have hdl : (wordsW 3 1 aw25E).length = 5 := aw25_dl
 rw [hdl] at hv13 ⊢
 go_wp2_with fail
 generalize hV : ext _ r4 = V at *
 have HEV := hid (show Ext U V by rw [← hV]; (show Ext _ _; repeat first | (with_reducible first | (refine xH ?_; assumption) | exact xR _ | refine xX ?_ _ | refine xA ?_ _) | refine xD ?_ | refine xN ?_ _ | exact xR _))
 have HEVw := hid (HEU.out.trans HEV.out)
 have HBV := hid (HBl.out.of HEV.out)
 have HLV := hid (HLU.out.of HEV.out)
 have HSD := hid (show Sl V 3 wdE (.slice (some ⟨g13, 0, none⟩) 5 c13) aw25D from Sl.of_own wdE_len hv13)
 have hgV : g < V.heap.size := Nat.lt_of_lt_of_le hgU HEV.out.size
 have hgd : g13 ≠ g := by simp at hg13; omega
 clear hV hv13 hg13 hgs13 HBl HLU HEU HEV
 go_loopw [5] (fun i wr => ∃ j : Nat, j ≤ 5 ∧ i = .int .i64 j ∧ Hid (Ws wr w.heap.size (.slice (some ⟨g, 0, none⟩) 256 c8) (putL (firstL 2 8 0) aw25D 48 j)) ∧ Hid (Grn g V wr)) (fun i _ => 5 - (intOf i).toNat)
 case atStart => exact ⟨0, by omega, rfl, HLV, hid Grn.refl⟩
 case round =>
 clear HLV
 obtain ⟨j, hj, rfl, HL, HG⟩ := hrel
 have hVs := HEVw.out.size
 have HEw := hid (HEVw.out.grn HG.out (by omega))
 have HBw := hid (HBV.out.grn HG.out (by omega))
 have hgw2 : g < wr.heap.size := Nat.lt_of_lt_of_le hgV HG.out.size
 obtain ⟨l0, l1, l2⟩ := HBw.out.three
 have l4 := HBw.out.1
 by_cases hj5 : j < 5
 ·have hjj : (j : Int) < 5 := by omega
  obtain ⟨⟨u1, u2, u3⟩, hu⟩ : ∃ u, aw25D[j]? = some u := ⟨_, List.getElem?_eq_getElem (by rw [aw25_dl]; omega)⟩
  have HNx := hid (putL_succ (L := firstL 2 8 0) (p := 48) hu)
  obtain ⟨q0, b4, o4, ha4, hbl, hcx⟩ := Sl.at (HSD.out.grn wdE_len HG.out hgd) hu
  cases ha4
  have k0 := hcx 0 (by omega)
  have k1 := hcx 1 (by omega)
  have k2 := hcx 2 (by omega)
  simp [wdE] at k0 k1 k2
  have hlen : (putL (firstL 2 8 0) aw25D 48 j).length = 256 := by rw [putL_len]; exact aw25_first
  obtain ⟨⟨y1, y2, y3⟩, hy⟩ : ∃ y, (putL (firstL 2 8 0) aw25D 48 j)[48 + j]? = some y := ⟨_, List.getElem?_eq_getElem (by rw [hlen]; omega)⟩
  obtain ⟨m0, m1, m2⟩ := Ws.cells HL.out hy
  have f0 := Ws.free HL.out ((48 + j) * 3)
  have f1 := Ws.free HL.out ((48 + j) * 3 + 1)
  have f2 := Ws.free HL.out ((48 + j) * 3 + 2)
  have HLn := hid hlen
  have t1 : ((48 : Int) + (j : Int)).toNat = 48 + j := by omega
  have t0 : (0 : Int) ≤ (48 : Int) + (j : Int) := by omega
  have t2 : (48 : Int) + (j : Int) < 256 := by omega
  have t3 : IntKind.i64.wrap ((48 : Int) + (j : Int)) = (48 : Int) + (j : Int) := IntWalk.i64_in _ (by omega)
  clear hcx q0 hu hy hlen hbl
  go_upto_region 9 with fail
  refine wp_region_held_drew (S := fun w' => (w'.cell? ⟨w.heap.size, 0, none⟩ = some (.int .i64 2) ∧ w'.cell? ⟨w.heap.size, 1, none⟩ = some (.int .i64 8) ∧ w'.cell? ⟨w.heap.size, 2, none⟩ = some (.int .i64 0)) ∧ (w'.cell? ⟨g13, j * 3, none⟩ = some (.int .i64 u1) ∧ w'.cell? ⟨g13, j * 3 + 1, none⟩ = some (.int .u32 u2) ∧ w'.cell? ⟨g13, j * 3 + 2, none⟩ = some (.int .u32 u3))) (by kernel_rfl) (by exact ⟨⟨(show Grn g wr _ from by (show Grn _ _ _; repeat (first | with_reducible exact Grn.refl | with_reducible refine Grn.setCell ?_ _ _ | with_reducible refine Grn.ext ?_ _ | with_reducible refine Grn.alloc ?_ _ | with_reducible refine Grn.drew ?_))).cell (by omega) l0, (show Grn g wr _ from by (show Grn _ _ _; repeat (first | with_reducible exact Grn.refl | with_reducible refine Grn.setCell ?_ _ _ | with_reducible refine Grn.ext ?_ _ | with_reducible refine Grn.alloc ?_ _ | with_reducible refine Grn.drew ?_))).cell (by omega) l1, (show Grn g wr _ from by (show Grn _ _ _; repeat (first | with_reducible exact Grn.refl | with_reducible refine Grn.setCell ?_ _ _ | with_reducible refine Grn.ext ?_ _ | with_reducible refine Grn.alloc ?_ _ | with_reducible refine Grn.drew ?_))).cell (by omega) l2⟩, (show Grn g wr _ from by (show Grn _ _ _; repeat (first | with_reducible exact Grn.refl | with_reducible refine Grn.setCell ?_ _ _ | with_reducible refine Grn.ext ?_ _ | with_reducible refine Grn.alloc ?_ _ | with_reducible refine Grn.drew ?_))).cell hgd k0, (show Grn g wr _ from by (show Grn _ _ _; repeat (first | with_reducible exact Grn.refl | with_reducible refine Grn.setCell ?_ _ _ | with_reducible refine Grn.ext ?_ _ | with_reducible refine Grn.alloc ?_ _ | with_reducible refine Grn.drew ?_))).cell hgd k1, (show Grn g wr _ from by (show Grn _ _ _; repeat (first | with_reducible exact Grn.refl | with_reducible refine Grn.setCell ?_ _ _ | with_reducible refine Grn.ext ?_ _ | with_reducible refine Grn.alloc ?_ _ | with_reducible refine Grn.drew ?_))).cell hgd k2⟩) (fun hHeld => ?_)
  refine take_met 0 (oi := ⟨_, _, _, _, _, _⟩) (v := ?_) (by kernel_rfl) rfl (by rfl) (fun _ _ _ h => h) (by assumption) ?_ ?_
  rotate_left 1
  ·intro w hSw
   try dsimp only at hSw
   go_simp
   try with_reducible rfl
  (try simp only [Act.put, pA, pB, pC])
  refine take_met 1 (oi := ⟨_, _, _, _, _, _⟩) (v := ?_) (by kernel_rfl) rfl (by rfl) (fun _ _ _ h => h) (by assumption) ?_ ?_
  rotate_left 1
  ·intro w hSw
   try dsimp only at hSw
   go_simp
   try with_reducible rfl
  (try simp only [Act.put, pA, pB, pC])
  refine take_met 3 (oi := ⟨_, _, _, _, _, _⟩) (v := ?_) (by kernel_rfl) rfl (by rfl) (fun _ _ _ h => h) (by assumption) ?_ ?_
  rotate_left 1
  ·intro w hSw
   try dsimp only at hSw
   go_simp
   try with_reducible rfl
  (try simp only [Act.put, pA, pB, pC])
  refine take_met 5 (oi := ⟨_, _, _, _, _, _⟩) (v := ?_) (by kernel_rfl) rfl (by rfl) (fun _ _ _ h => h) (by assumption) ?_ ?_
  rotate_left 1
  ·intro w hSw
   try dsimp only at hSw
   go_simp
   try with_reducible rfl
  (try simp only [Act.put, pA, pB, pC])
  refine take_met 6 (oi := ⟨_, _, _, _, _, _⟩) (v := ?_) (by kernel_rfl) rfl (by rfl) (fun _ _ _ h => h) (by assumption) ?_ ?_
  rotate_left 1
  ·intro w hSw
   try dsimp only at hSw
   go_simp
   try with_reducible rfl
  (try simp only [Act.put, pA, pB, pC])
  refine take_met 7 (oi := ⟨_, _, _, _, _, _⟩) (v := ?_) (by kernel_rfl) rfl (by rfl) (fun _ _ _ h => h) (by assumption) ?_ ?_
  rotate_left 1
  ·intro w hSw
   try dsimp only at hSw
   go_simp
   try with_reducible rfl
  (try simp only [Act.put, pA, pB, pC])
  refine take_met 8 (oi := ⟨_, _, _, _, _, _⟩) (v := ?_) (by kernel_rfl) rfl (by rfl) (fun _ _ _ h => h) (by assumption) ?_ ?_
  rotate_left 1
  ·intro w hSw
   try dsimp only at hSw
   go_simp
   try with_reducible rfl
  (try simp only [Act.put, pA, pB, pC])
  refine take_only 2 (oi := ⟨_, _, _, _, _, _⟩) (by kernel_rfl) rfl (fun K hK => ?_)
  go_simp
  first
   | (go_at_call 17; refine (slot_any 2 8 0 1 _ (HS.out.of (HEw.out.trans (by (show Ext _ _; repeat first | (with_reducible first | (refine xH ?_; assumption) | exact xR _ | refine xX ?_ _ | refine xA ?_ _) | refine xD ?_ | refine xN ?_ _ | exact xR _))))).mono ?_; rintro e w' ⟨rfl, r9, rfl⟩; rw [aw25_s1])
  have hOld := hHeld
  clear hHeld
  refine hK.out _ _ (by exact ⟨⟨(show Grn g wr _ from by (show Grn _ _ _; repeat (first | with_reducible exact Grn.refl | with_reducible refine Grn.setCell ?_ _ _ | with_reducible refine Grn.ext ?_ _ | with_reducible refine Grn.alloc ?_ _ | with_reducible refine Grn.drew ?_))).cell (by omega) l0, (show Grn g wr _ from by (show Grn _ _ _; repeat (first | with_reducible exact Grn.refl | with_reducible refine Grn.setCell ?_ _ _ | with_reducible refine Grn.ext ?_ _ | with_reducible refine Grn.alloc ?_ _ | with_reducible refine Grn.drew ?_))).cell (by omega) l1, (show Grn g wr _ from by (show Grn _ _ _; repeat (first | with_reducible exact Grn.refl | with_reducible refine Grn.setCell ?_ _ _ | with_reducible refine Grn.ext ?_ _ | with_reducible refine Grn.alloc ?_ _ | with_reducible refine Grn.drew ?_))).cell (by omega) l2⟩, (show Grn g wr _ from by (show Grn _ _ _; repeat (first | with_reducible exact Grn.refl | with_reducible refine Grn.setCell ?_ _ _ | with_reducible refine Grn.ext ?_ _ | with_reducible refine Grn.alloc ?_ _ | with_reducible refine Grn.drew ?_))).cell hgd k0, (show Grn g wr _ from by (show Grn _ _ _; repeat (first | with_reducible exact Grn.refl | with_reducible refine Grn.setCell ?_ _ _ | with_reducible refine Grn.ext ?_ _ | with_reducible refine Grn.alloc ?_ _ | with_reducible refine Grn.drew ?_))).cell hgd k1, (show Grn g wr _ from by (show Grn _ _ _; repeat (first | with_reducible exact Grn.refl | with_reducible refine Grn.setCell ?_ _ _ | with_reducible refine Grn.ext ?_ _ | with_reducible refine Grn.alloc ?_ _ | with_reducible refine Grn.drew ?_))).cell hgd k2⟩) (fun hHeld => ?_)
  clear hOld hK K
  (try simp only [Act.put, pA, pB, pC])
  refine take_met 4 (oi := ⟨_, _, _, _, _, _⟩) (v := ?_) (by kernel_rfl) rfl (by rfl) (fun _ _ _ h => h) (by assumption) ?_ ?_
  rotate_left 1
  ·intro w hSw
   try dsimp only at hSw
   go_simp
   try with_reducible rfl
  (try simp only [Act.put, pA, pB, pC])
  refine take_met 9 (oi := ⟨_, _, _, _, _, _⟩) (v := ?_) (by kernel_rfl) rfl (by rfl) (fun _ _ _ h => h) (by assumption) ?_ ?_
  rotate_left 1
  ·intro w hSw
   try dsimp only at hSw
   go_simp
   try with_reducible rfl
  (try simp only [Act.put, pA, pB, pC])
  refine take_only 10 (oi := ⟨_, _, _, _, _, _⟩) (by kernel_rfl) rfl (fun K hK => ?_)
  go_simp
  have hOld := hHeld
  clear hHeld
  refine hK.out _ _ (by exact ⟨⟨(show Grn g wr _ from by (show Grn _ _ _; repeat (first | with_reducible exact Grn.refl | with_reducible refine Grn.setCell ?_ _ _ | with_reducible refine Grn.ext ?_ _ | with_reducible refine Grn.alloc ?_ _ | with_reducible refine Grn.drew ?_))).cell (by omega) l0, (show Grn g wr _ from by (show Grn _ _ _; repeat (first | with_reducible exact Grn.refl | with_reducible refine Grn.setCell ?_ _ _ | with_reducible refine Grn.ext ?_ _ | with_reducible refine Grn.alloc ?_ _ | with_reducible refine Grn.drew ?_))).cell (by omega) l1, (show Grn g wr _ from by (show Grn _ _ _; repeat (first | with_reducible exact Grn.refl | with_reducible refine Grn.setCell ?_ _ _ | with_reducible refine Grn.ext ?_ _ | with_reducible refine Grn.alloc ?_ _ | with_reducible refine Grn.drew ?_))).cell (by omega) l2⟩, (show Grn g wr _ from by (show Grn _ _ _; repeat (first | with_reducible exact Grn.refl | with_reducible refine Grn.setCell ?_ _ _ | with_reducible refine Grn.ext ?_ _ | with_reducible refine Grn.alloc ?_ _ | with_reducible refine Grn.drew ?_))).cell hgd k0, (show Grn g wr _ from by (show Grn _ _ _; repeat (first | with_reducible exact Grn.refl | with_reducible refine Grn.setCell ?_ _ _ | with_reducible refine Grn.ext ?_ _ | with_reducible refine Grn.alloc ?_ _ | with_reducible refine Grn.drew ?_))).cell hgd k1, (show Grn g wr _ from by (show Grn _ _ _; repeat (first | with_reducible exact Grn.refl | with_reducible refine Grn.setCell ?_ _ _ | with_reducible refine Grn.ext ?_ _ | with_reducible refine Grn.alloc ?_ _ | with_reducible refine Grn.drew ?_))).cell hgd k2⟩) (fun hHeld => ?_)
  clear hOld hK K
  (try simp only [Act.put, pA, pB, pC])
  refine wpAnyH_done (by kernel_rfl) ?_ _
  go_wp2_with fail
  go_roundw
  case rel => exact ⟨j + 1, by omega, by go_num, hid (by rw [HNx.out]; exact Ws.put (HL.out.of (by (show Ext _ _; repeat first | (with_reducible first | (refine xH ?_; assumption) | exact xR _ | refine xX ?_ _ | refine xA ?_ _) | refine xD ?_ | refine xN ?_ _ | exact xR _))) (by rw [HLn.out]; omega) u1 u2 u3), hid ((((HG.out.trans (Grn.of_ext (by (show Ext _ _; repeat first | (with_reducible first | (refine xH ?_; assumption) | exact xR _ | refine xX ?_ _ | refine xA ?_ _) | refine xD ?_ | refine xN ?_ _ | exact xR _)))).setCell _ _).setCell _ _).setCell _ _)⟩
  case measure => simp [intOf]; omega
 have hjj : ¬ (j : Int) < 5 := by omega
 obtain rfl : j = 5 := by omega
 obtain ⟨L1, hL1⟩ : ∃ L, L = putL (firstL 2 8 0) aw25D 48 5 := ⟨_, rfl⟩
 rw [← hL1] at HL
 have HL1 := hid hL1
 have hl1 : L1.length = 256 := by rw [hL1, putL_len]; exact aw25_first
 obtain ⟨⟨y1, y2, y3⟩, hy⟩ : ∃ y, L1[40]? = some y := ⟨_, List.getElem?_eq_getElem (by rw [hl1]; omega)⟩
 obtain ⟨⟨z1, z2, z3⟩, hz⟩ : ∃ y, L1[152]? = some y := ⟨_, List.getElem?_eq_getElem (by rw [hl1]; omega)⟩
 obtain ⟨m0, m1, m2⟩ := Ws.cells HL.out hy
 obtain ⟨m3, m4, m5⟩ := Ws.cells HL.out hz
 simp only [Nat.reduceMul, Nat.reduceAdd] at m0 m1 m2 m3 m4 m5
 have f0 := fun k => Ws.free HL.out k
 have HLn := hid hl1
 clear hL1 hl1 hy hz hj hj5
 go_wp2_with fail
 refine (cell_any 2 8 0 0 _ (HS.out.of (HEw.out.trans (by (show Ext _ _; repeat first | (with_reducible first | (refine xH ?_; assumption) | exact xR _ | refine xX ?_ _ | refine xA ?_ _) | refine xD ?_ | refine xN ?_ _ | exact xR _))))).mono ?_
 rintro e w' ⟨rfl, r5, rfl⟩
 rw [aw25_c0]
 go_wp2_with fail
 refine (slot_any 2 8 0 2 _ (HS.out.of ?_)).mono ?_
 ·exact ((((HEw.out.trans (by (show Ext _ _; repeat first | (with_reducible first | (refine xH ?_; assumption) | exact xR _ | refine xX ?_ _ | refine xA ?_ _) | refine xD ?_ | refine xN ?_ _ | exact xR _))).setCell (by dsimp only; omega) _).setCell (by dsimp only; omega) _).setCell (by dsimp only; omega) _)
 rintro e w' ⟨rfl, r6, rfl⟩
 rw [aw25_s2]
 go_wp2_with fail
 refine (status_any 0 4 (by omega) (by omega) _).mono ?_
 rintro e w' ⟨rfl, r7, rfl⟩
 go_wp2_with fail
 generalize hY : World.setCell _ _ _ = Y
 have HLY := hid (show Ws Y w.heap.size (.slice (some ⟨g, 0, none⟩) 256 c8) aw25W from by
  rw [← hY, show aw25W = (L1.set 40 (5, 2, 16777219)).set 152 (0, 4, 0) by rw [HL1.out]; rfl]
  have k0 := Ws.put (HL.out.of (show Ext wr (ext wr r5) by (show Ext _ _; repeat first | (with_reducible first | (refine xH ?_; assumption) | exact xR _ | refine xX ?_ _ | refine xA ?_ _) | refine xD ?_ | refine xN ?_ _ | exact xR _))) (q := 40) (by rw [HLn.out]; omega) 5 2 16777219
  have k1 := Ws.put (k0.of (show Ext _ _ from ((Ext.refl _).ext r6).ext r7)) (q := 152) (by rw [List.length_set, HLn.out]; omega) 0 4 0
  exact k1)
 have HEY := hid (show Ext w Y by
  rw [← hY]
  exact (((((((((HEw.out.ext r5).setCell (by dsimp only; omega) _).setCell (by dsimp only; omega) _).setCell (by dsimp only; omega) _).ext r6).ext r7).setCell (by dsimp only; omega) _).setCell (by dsimp only; omega) _).setCell (by dsimp only; omega) _))
 have HBY := hid (show Blk Y w.heap.size [.int .i64 2, .int .i64 8, .int .i64 0] by rw [← hY]; (show Blk _ _ _; repeat first | (with_reducible first | (refine xH ?_; assumption) | apply bD | apply bX) | ((with_reducible refine bN _ _ rfl ?_); first | with_reducible rfl | focus (simp; done)) | ((with_reducible apply bE); first | with_reducible rfl | focus (simp; done)) | (with_reducible first | apply bA | assumption | apply bS) | ((with_reducible refine bO ?_ ?_); first | omega | (simp; omega)) | (show List.set _ _ _ = _; exact rfl) | focus (show _ < List.length _; simp; done)))
 clear hY m0 m1 m2 m3 m4 m5 f0 l0 l1 l2 l4 HL HG HEw HBw hgw2 HL1 HLn
 have HSY := hid (show Wsl Y (.slice (some ⟨g, 0, none⟩) 256 c8) aw25W from Sl.of_own wdE_len HLY.out)
 obtain ⟨l0, l1, l2⟩ := HBY.out.three
 have l4 := HBY.out.1
 go_wp2_with fail
 refine (rwords_any 2 8 0 aw25W _ aw25_ok (by rw [aw25_wl]; omega) _ (HS.out.of (HEY.out.trans (by (show Ext _ _; repeat first | (with_reducible first | (refine xH ?_; assumption) | exact xR _ | refine xX ?_ _ | refine xA ?_ _) | refine xD ?_ | refine xN ?_ _ | exact xR _)))) (HSY.out.of wdE_len (by (show Ext _ _; repeat first | (with_reducible first | (refine xH ?_; assumption) | exact xR _ | refine xX ?_ _ | refine xA ?_ _) | refine xD ?_ | refine xN ?_ _ | exact xR _)))).mono ?_
 rintro y w' ⟨v6, rfl, ⟨r8, rfl⟩, hv6⟩
 rw [aw25_redo] at hv6 ⊢
 dsimp only at hv6 ⊢
 have hSX := Sl.of_own wdE_len hv6
 obtain ⟨gx, cx, rfl, hgx, hgsx⟩ := Ws.open hv6 (by rw [aw25_xl]; omega)
 rw [aw25_xl] at hSX ⊢
 go_wp2_with fail
 generalize hZ : ext _ r8 = Z at *
 have HEZ0 := hid (show Ext Y Z by rw [← hZ]; (show Ext _ _; repeat first | (with_reducible first | (refine xH ?_; assumption) | exact xR _ | refine xX ?_ _ | refine xA ?_ _) | refine xD ?_ | refine xN ?_ _ | exact xR _))
 have HEZ := hid (HEY.out.trans HEZ0.out)
 have HBZ := hid (HBY.out.of HEZ0.out)
 have HSX := hid (show Wsl Z (.slice (some ⟨gx, 0, none⟩) 256 cx) aw25X from hSX)
 have HSW := hid (HSY.out.of wdE_len HEZ0.out)
 clear hZ hv6 hgx hgsx hSX l0 l1 l2 l4 HEZ0
 obtain ⟨hq5, b5, o5, hab, hb5, hc5⟩ := Sl.at HSX.out aw25_x40
 cases hab
 clear hq5
 have q0 := hc5 0 (by omega)
 have q1 := hc5 1 (by omega)
 have q2 := hc5 2 (by omega)
 obtain ⟨hq6, b5, o5, hab, _, hc6⟩ := Sl.at HSX.out aw25_x152
 cases hab
 clear hq6
 have q3 := hc6 0 (by omega)
 have q4 := hc6 1 (by omega)
 have q5 := hc6 2 (by omega)
 simp [wdE] at q0 q1 q2 q3 q4 q5
 have heq := eq_word 9 3 0 9 3 0
 rw [wdB_self] at heq
 have heq2 := eq_word 2 4 0 2 4 0
 rw [wdB_self] at heq2
 have hga := eq_guard_word
 clear hc5 hc6
 go_upto_region 13 with fail
 have HKp_ := hid (show ∀ w', Ext Z w' → (fun w' => (w'.cell? ⟨w.heap.size, 0, none⟩ = some (.int .i64 2) ∧ w'.cell? ⟨w.heap.size, 1, none⟩ = some (.int .i64 8) ∧ w'.cell? ⟨w.heap.size, 2, none⟩ = some (.int .i64 0)) ∧ (w'.cell? ⟨gx, 120, none⟩ = some (.int .i64 9) ∧ w'.cell? ⟨gx, 121, none⟩ = some (.int .u32 3) ∧ w'.cell? ⟨gx, 122, none⟩ = some (.int .u32 0)) ∧ (w'.cell? ⟨gx, 456, none⟩ = some (.int .i64 2) ∧ w'.cell? ⟨gx, 457, none⟩ = some (.int .u32 4) ∧ w'.cell? ⟨gx, 458, none⟩ = some (.int .u32 0))) w' from fun w' hE_ => ⟨(HBZ.out.of hE_).three, ⟨hE_.cell q0, hE_.cell q1, hE_.cell q2⟩, hE_.cell q3, hE_.cell q4, hE_.cell q5⟩)
 refine wp_region_held_drew (S := fun w' => (w'.cell? ⟨w.heap.size, 0, none⟩ = some (.int .i64 2) ∧ w'.cell? ⟨w.heap.size, 1, none⟩ = some (.int .i64 8) ∧ w'.cell? ⟨w.heap.size, 2, none⟩ = some (.int .i64 0)) ∧ (w'.cell? ⟨gx, 120, none⟩ = some (.int .i64 9) ∧ w'.cell? ⟨gx, 121, none⟩ = some (.int .u32 3) ∧ w'.cell? ⟨gx, 122, none⟩ = some (.int .u32 0)) ∧ (w'.cell? ⟨gx, 456, none⟩ = some (.int .i64 2) ∧ w'.cell? ⟨gx, 457, none⟩ = some (.int .u32 4) ∧ w'.cell? ⟨gx, 458, none⟩ = some (.int .u32 0))) (by kernel_rfl) (by exact HKp_.out _ (by (show Ext _ _; repeat with_reducible first | (refine xH ?_; assumption) | exact xR _ | refine xX ?_ _ | refine xA ?_ _ | refine xD ?_ | refine xS ?_ (by (try dsimp only); first | omega | (simp; done) | (simp; omega)) _))) (fun hHeld => ?_)
 refine take_met 0 (oi := ⟨_, _, _, _, _, _⟩) (v := ?_) (by kernel_rfl) rfl (by rfl) (fun _ _ _ h => h) (by assumption) ?_ ?_
 rotate_left 1
 ·intro w hSw
  try dsimp only at hSw
  go_simp
  try with_reducible rfl
 (try simp only [Act.put, pA, pB, pC])
 refine take_met 1 (oi := ⟨_, _, _, _, _, _⟩) (v := ?_) (by kernel_rfl) rfl (by rfl) (fun _ _ _ h => h) (by assumption) ?_ ?_
 rotate_left 1
 ·intro w hSw
  try dsimp only at hSw
  go_simp
  try with_reducible rfl
 (try simp only [Act.put, pA, pB, pC])
 refine take_met 2 (oi := ⟨_, _, _, _, _, _⟩) (v := ?_) (by kernel_rfl) rfl (by rfl) (fun _ _ _ h => h) (by assumption) ?_ ?_
 rotate_left 1
 ·intro w hSw
  try dsimp only at hSw
  go_simp
  try with_reducible rfl
 (try simp only [Act.put, pA, pB, pC])
 refine take_met 3 (oi := ⟨_, _, _, _, _, _⟩) (v := ?_) (by kernel_rfl) rfl (by rfl) (fun _ _ _ h => h) (by assumption) ?_ ?_
 rotate_left 1
 ·intro w hSw
  try dsimp only at hSw
  go_simp
  try with_reducible rfl
 (try simp only [Act.put, pA, pB, pC])
 refine take_met 4 (oi := ⟨_, _, _, _, _, _⟩) (v := ?_) (by kernel_rfl) rfl (by rfl) (fun _ _ _ h => h) (by assumption) ?_ ?_
 rotate_left 1
 ·intro w hSw
  try dsimp only at hSw
  go_simp
  try with_reducible rfl
 (try simp only [Act.put, pA, pB, pC])
 refine take_met 5 (oi := ⟨_, _, _, _, _, _⟩) (v := ?_) (by kernel_rfl) rfl (by rfl) (fun _ _ _ h => h) (by assumption) ?_ ?_
 rotate_left 1
 ·intro w hSw
  try dsimp only at hSw
  go_simp
  try with_reducible rfl
 (try simp only [Act.put, pA, pB, pC])
 refine take_met 6 (oi := ⟨_, _, _, _, _, _⟩) (v := ?_) (by kernel_rfl) rfl (by rfl) (fun _ _ _ h => h) (by assumption) ?_ ?_
 rotate_left 1
 ·intro w hSw
  try dsimp only at hSw
  go_simp
  try with_reducible rfl
 (try simp only [Act.put, pA, pB, pC])
 refine take_met 7 (oi := ⟨_, _, _, _, _, _⟩) (v := ?_) (by kernel_rfl) rfl (by rfl) (fun _ _ _ h => h) (by assumption) ?_ ?_
 rotate_left 1
 ·intro w hSw
  try dsimp only at hSw
  go_simp
  try with_reducible rfl
 (try simp only [Act.put, pA, pB, pC])
 refine take_met 8 (oi := ⟨_, _, _, _, _, _⟩) (v := ?_) (by kernel_rfl) rfl (by rfl) (fun _ _ _ h => h) (by assumption) ?_ ?_
 rotate_left 1
 ·intro w hSw
  try dsimp only at hSw
  go_simp
  try with_reducible rfl
 (try simp only [Act.put, pA, pB, pC])
 refine take_met 9 (oi := ⟨_, _, _, _, _, _⟩) (v := ?_) (by kernel_rfl) rfl (by rfl) (fun _ _ _ h => h) (by assumption) ?_ ?_
 rotate_left 1
 ·intro w hSw
  try dsimp only at hSw
  go_simp
  try with_reducible rfl
 (try simp only [Act.put, pA, pB, pC])
 refine take_met 10 (oi := ⟨_, _, _, _, _, _⟩) (v := ?_) (by kernel_rfl) rfl (by rfl) (fun _ _ _ h => h) (by assumption) ?_ ?_
 rotate_left 1
 ·intro w hSw
  try dsimp only at hSw
  go_simp
  try with_reducible rfl
 (try simp only [Act.put, pA, pB, pC])
 refine take_met 11 (oi := ⟨_, _, _, _, _, _⟩) (v := ?_) (by kernel_rfl) rfl (by rfl) (fun _ _ _ h => h) (by assumption) ?_ ?_
 rotate_left 1
 ·intro w hSw
  try dsimp only at hSw
  go_simp
  try with_reducible rfl
 (try simp only [Act.put, pA, pB, pC])
 refine take_met 12 (oi := ⟨_, _, _, _, _, _⟩) (v := ?_) (by kernel_rfl) rfl (by rfl) (fun _ _ _ h => h) (by assumption) ?_ ?_
 rotate_left 1
 ·intro w hSw
  try dsimp only at hSw
  go_simp
  try with_reducible rfl
 (try simp only [Act.put, pA, pB, pC])
 refine take_met 13 (oi := ⟨_, _, _, _, _, _⟩) (v := ?_) (by kernel_rfl) rfl (by rfl) (fun _ _ _ h => h) (by assumption) ?_ ?_
 rotate_left 1
 ·intro w hSw
  try dsimp only at hSw
  go_simp
  try with_reducible rfl
 (try simp only [Act.put, pA, pB, pC])
 refine take_met 14 (oi := ⟨_, _, _, _, _, _⟩) (v := ?_) (by kernel_rfl) rfl (by rfl) (fun _ _ _ h => h) (by assumption) ?_ ?_
 rotate_left 1
 ·intro w hSw
  try dsimp only at hSw
  go_simp
  try with_reducible rfl
 (try simp only [Act.put, pA, pB, pC])
 refine take_met 15 (oi := ⟨_, _, _, _, _, _⟩) (v := ?_) (by kernel_rfl) rfl (by rfl) (fun _ _ _ h => h) (by assumption) ?_ ?_
 rotate_left 1
 ·intro w hSw
  try dsimp only at hSw
  go_simp
  try with_reducible rfl
 (try simp only [Act.put, pA, pB, pC])
 refine take_met 19 (oi := ⟨_, _, _, _, _, _⟩) (v := ?_) (by kernel_rfl) rfl (by rfl) (fun _ _ _ h => h) (by assumption) ?_ ?_
 rotate_left 1
 ·intro w hSw
  try dsimp only at hSw
  go_simp
  try with_reducible rfl
 (try simp only [Act.put, pA, pB, pC])
 refine take_only 16 (oi := ⟨_, _, _, _, _, _⟩) (by kernel_rfl) rfl (fun K hK => ?_)
 go_simp
 first
  | (go_at_call 16; refine (cell_any 2 8 0 0 _ (HS.out.of (HEZ.out.trans (by (show Ext _ _; repeat first | (with_reducible first | (refine xH ?_; assumption) | exact xR _ | refine xX ?_ _ | refine xA ?_ _) | refine xD ?_ | refine xN ?_ _ | exact xR _))))).mono ?_; rintro e w' ⟨rfl, r9, rfl⟩; rw [aw25_c0])
 have hOld := hHeld
 clear hHeld
 refine hK.out _ _ (by exact HKp_.out _ (by (show Ext _ _; repeat with_reducible first | (refine xH ?_; assumption) | exact xR _ | refine xX ?_ _ | refine xA ?_ _ | refine xD ?_ | refine xS ?_ (by (try dsimp only); first | omega | (simp; done) | (simp; omega)) _))) (fun hHeld => ?_)
 clear hOld hK K
 (try simp only [Act.put, pA, pB, pC])
 refine take_met 17 (oi := ⟨_, _, _, _, _, _⟩) (v := ?_) (by kernel_rfl) rfl (by rfl) (fun _ _ _ h => h) (by assumption) ?_ ?_
 rotate_left 1
 ·intro w hSw
  try dsimp only at hSw
  go_simp
  try with_reducible rfl
 (try simp only [Act.put, pA, pB, pC])
 refine take_met 18 (oi := ⟨_, _, _, _, _, _⟩) (v := ?_) (by kernel_rfl) rfl (by rfl) (fun _ _ _ h => h) (by assumption) ?_ ?_
 rotate_left 1
 ·intro w hSw
  try dsimp only at hSw
  go_simp
  try with_reducible rfl
 (try simp only [Act.put, pA, pB, pC])
 refine take_met 20 (oi := ⟨_, _, _, _, _, _⟩) (v := ?_) (by kernel_rfl) rfl (by rfl) (fun _ _ _ h => h) (by assumption) ?_ ?_
 rotate_left 1
 ·intro w hSw
  try dsimp only at hSw
  go_simp
  try with_reducible rfl
 (try simp only [Act.put, pA, pB, pC])
 refine take_met 21 (oi := ⟨_, _, _, _, _, _⟩) (v := ?_) (by kernel_rfl) rfl (by rfl) (fun _ _ _ h => h) (by assumption) ?_ ?_
 rotate_left 1
 ·intro w hSw
  try dsimp only at hSw
  go_simp
  try with_reducible rfl
 (try simp only [Act.put, pA, pB, pC])
 refine take_met 22 (oi := ⟨_, _, _, _, _, _⟩) (v := ?_) (by kernel_rfl) rfl (by rfl) (fun _ _ _ h => h) (by assumption) ?_ ?_
 rotate_left 1
 ·intro w hSw
  try dsimp only at hSw
  go_simp
  try with_reducible rfl
 (try simp only [Act.put, pA, pB, pC])
 refine take_met 23 (oi := ⟨_, _, _, _, _, _⟩) (v := ?_) (by kernel_rfl) rfl (by rfl) (fun _ _ _ h => h) (by assumption) ?_ ?_
 rotate_left 1
 ·intro w hSw
  try dsimp only at hSw
  go_simp
  try with_reducible rfl
 (try simp only [Act.put, pA, pB, pC])
 refine take_met 24 (oi := ⟨_, _, _, _, _, _⟩) (v := ?_) (by kernel_rfl) rfl (by rfl) (fun _ _ _ h => h) (by assumption) ?_ ?_
 rotate_left 1
 ·intro w hSw
  try dsimp only at hSw
  go_simp
  try with_reducible rfl
 (try simp only [Act.put, pA, pB, pC])
 refine take_only 25 (oi := ⟨_, _, _, _, _, _⟩) (by kernel_rfl) rfl (fun K hK => ?_)
 go_simp
 first
  | (go_at_call 17; refine (slot_any 2 8 0 2 _ (HS.out.of (HEZ.out.trans (by (show Ext _ _; repeat first | (with_reducible first | (refine xH ?_; assumption) | exact xR _ | refine xX ?_ _ | refine xA ?_ _) | refine xD ?_ | refine xN ?_ _ | exact xR _))))).mono ?_; rintro e w' ⟨rfl, r10, rfl⟩; rw [aw25_s2])
 have hOld := hHeld
 clear hHeld
 refine hK.out _ _ (by exact HKp_.out _ (by (show Ext _ _; repeat with_reducible first | (refine xH ?_; assumption) | exact xR _ | refine xX ?_ _ | refine xA ?_ _ | refine xD ?_ | refine xS ?_ (by (try dsimp only); first | omega | (simp; done) | (simp; omega)) _))) (fun hHeld => ?_)
 clear hOld hK K
 (try simp only [Act.put, pA, pB, pC])
 refine take_met 26 (oi := ⟨_, _, _, _, _, _⟩) (v := ?_) (by kernel_rfl) rfl (by rfl) (fun _ _ _ h => h) (by assumption) ?_ ?_
 rotate_left 1
 ·intro w hSw
  try dsimp only at hSw
  go_simp
  try with_reducible rfl
 (try simp only [Act.put, pA, pB, pC])
 refine take_met 27 (oi := ⟨_, _, _, _, _, _⟩) (v := ?_) (by kernel_rfl) rfl (by rfl) (fun _ _ _ h => h) (by assumption) ?_ ?_
 rotate_left 1
 ·intro w hSw
  try dsimp only at hSw
  go_simp
  try with_reducible rfl
 (try simp only [Act.put, pA, pB, pC])
 refine take_only 28 (oi := ⟨_, _, _, _, _, _⟩) (by kernel_rfl) rfl (fun K hK => ?_)
 go_simp
 first
  | (go_at_call 18; refine (status_any 2 4 (by omega) (by omega) _).mono ?_; rintro e w' ⟨rfl, r11, rfl⟩)
 have hOld := hHeld
 clear hHeld
 refine hK.out _ _ (by exact HKp_.out _ (by (show Ext _ _; repeat with_reducible first | (refine xH ?_; assumption) | exact xR _ | refine xX ?_ _ | refine xA ?_ _ | refine xD ?_ | refine xS ?_ (by (try dsimp only); first | omega | (simp; done) | (simp; omega)) _))) (fun hHeld => ?_)
 clear hOld hK K
 (try simp only [Act.put, pA, pB, pC])
 refine take_met 29 (oi := ⟨_, _, _, _, _, _⟩) (v := ?_) (by kernel_rfl) rfl (by rfl) (fun _ _ _ h => h) (by assumption) ?_ ?_
 rotate_left 1
 ·intro w hSw
  try dsimp only at hSw
  go_simp
  try with_reducible rfl
 (try simp only [Act.put, pA, pB, pC])
 refine take_met 30 (oi := ⟨_, _, _, _, _, _⟩) (v := ?_) (by kernel_rfl) rfl (by rfl) (fun _ _ _ h => h) (by assumption) ?_ ?_
 rotate_left 1
 ·intro w hSw
  try dsimp only at hSw
  go_simp
  try with_reducible rfl
 (try simp only [Act.put, pA, pB, pC])
 refine take_met 31 (oi := ⟨_, _, _, _, _, _⟩) (v := ?_) (by kernel_rfl) rfl (by rfl) (fun _ _ _ h => h) (by assumption) ?_ ?_
 rotate_left 1
 ·intro w hSw
  try dsimp only at hSw
  go_simp
  try with_reducible rfl
 (try simp only [Act.put, pA, pB, pC])
 refine take_met 32 (oi := ⟨_, _, _, _, _, _⟩) (v := ?_) (by kernel_rfl) rfl (by rfl) (fun _ _ _ h => h) (by assumption) ?_ ?_
 rotate_left 1
 ·intro w hSw
  try dsimp only at hSw
  go_simp
  try with_reducible rfl
 (try simp only [Act.put, pA, pB, pC])
 refine take_met 33 (oi := ⟨_, _, _, _, _, _⟩) (v := ?_) (by kernel_rfl) rfl (by rfl) (fun _ _ _ h => h) (by assumption) ?_ ?_
 rotate_left 1
 ·intro w hSw
  try dsimp only at hSw
  go_simp
  try with_reducible rfl
 (try simp only [Act.put, pA, pB, pC])
 refine take_only 34 (oi := ⟨_, _, _, _, _, _⟩) (by kernel_rfl) rfl (fun K hK => ?_)
 go_simp
 first
  | (go_at_call 20; refine (rclean_any 2 8 0 aw25X _ (by rw [aw25_xl]; omega) _ (HS.out.of (HEZ.out.trans (by (show Ext _ _; repeat first | (with_reducible first | (refine xH ?_; assumption) | exact xR _ | refine xX ?_ _ | refine xA ?_ _) | refine xD ?_ | refine xN ?_ _ | exact xR _)))) (HSX.out.of wdE_len (by (show Ext _ _; repeat first | (with_reducible first | (refine xH ?_; assumption) | exact xR _ | refine xX ?_ _ | refine xA ?_ _) | refine xD ?_ | refine xN ?_ _ | exact xR _)))).mono ?_; rintro e w' ⟨rfl, r12, rfl⟩; rw [aw25_cx])
 have hOld := hHeld
 clear hHeld
 refine hK.out _ _ (by exact HKp_.out _ (by (show Ext _ _; repeat with_reducible first | (refine xH ?_; assumption) | exact xR _ | refine xX ?_ _ | refine xA ?_ _ | refine xD ?_ | refine xS ?_ (by (try dsimp only); first | omega | (simp; done) | (simp; omega)) _))) (fun hHeld => ?_)
 clear hOld hK K
 (try simp only [Act.put, pA, pB, pC])
 refine take_met 35 (oi := ⟨_, _, _, _, _, _⟩) (v := ?_) (by kernel_rfl) rfl (by rfl) (fun _ _ _ h => h) (by assumption) ?_ ?_
 rotate_left 1
 ·intro w hSw
  try dsimp only at hSw
  go_simp
  try with_reducible rfl
 (try simp only [Act.put, pA, pB, pC])
 refine take_met 36 (oi := ⟨_, _, _, _, _, _⟩) (v := ?_) (by kernel_rfl) rfl (by rfl) (fun _ _ _ h => h) (by assumption) ?_ ?_
 rotate_left 1
 ·intro w hSw
  try dsimp only at hSw
  go_simp
  try with_reducible rfl
 (try simp only [Act.put, pA, pB, pC])
 refine take_met 37 (oi := ⟨_, _, _, _, _, _⟩) (v := ?_) (by kernel_rfl) rfl (by rfl) (fun _ _ _ h => h) (by assumption) ?_ ?_
 rotate_left 1
 ·intro w hSw
  try dsimp only at hSw
  go_simp
  try with_reducible rfl
 (try simp only [Act.put, pA, pB, pC])
 refine take_met 38 (oi := ⟨_, _, _, _, _, _⟩) (v := ?_) (by kernel_rfl) rfl (by rfl) (fun _ _ _ h => h) (by assumption) ?_ ?_
 rotate_left 1
 ·intro w hSw
  try dsimp only at hSw
  go_simp
  try with_reducible rfl
 (try simp only [Act.put, pA, pB, pC])
 refine take_only 39 (oi := ⟨_, _, _, _, _, _⟩) (by kernel_rfl) rfl (fun K hK => ?_)
 go_simp
 first
  | (go_at_call 20; refine (rclean_any 2 8 0 aw25W _ (by rw [aw25_wl]; omega) _ (HS.out.of (HEZ.out.trans (by (show Ext _ _; repeat first | (with_reducible first | (refine xH ?_; assumption) | exact xR _ | refine xX ?_ _ | refine xA ?_ _) | refine xD ?_ | refine xN ?_ _ | exact xR _)))) (HSW.out.of wdE_len (by (show Ext _ _; repeat first | (with_reducible first | (refine xH ?_; assumption) | exact xR _ | refine xX ?_ _ | refine xA ?_ _) | refine xD ?_ | refine xN ?_ _ | exact xR _)))).mono ?_; rintro e w' ⟨rfl, r13, rfl⟩; rw [aw25_cw])
 have hOld := hHeld
 clear hHeld
 refine hK.out _ _ (by exact HKp_.out _ (by (show Ext _ _; repeat with_reducible first | (refine xH ?_; assumption) | exact xR _ | refine xX ?_ _ | refine xA ?_ _ | refine xD ?_ | refine xS ?_ (by (try dsimp only); first | omega | (simp; done) | (simp; omega)) _))) (fun hHeld => ?_)
 clear hOld hK K
 (try simp only [Act.put, pA, pB, pC])
 refine take_met 40 (oi := ⟨_, _, _, _, _, _⟩) (v := ?_) (by kernel_rfl) rfl (by rfl) (fun _ _ _ h => h) (by assumption) ?_ ?_
 rotate_left 1
 ·intro w hSw
  try dsimp only at hSw
  go_simp
  try with_reducible rfl
 (try simp only [Act.put, pA, pB, pC])
 refine take_met 41 (oi := ⟨_, _, _, _, _, _⟩) (v := ?_) (by kernel_rfl) rfl (by rfl) (fun _ _ _ h => h) (by assumption) ?_ ?_
 rotate_left 1
 ·intro w hSw
  try dsimp only at hSw
  go_simp
  try with_reducible rfl
 (try simp only [Act.put, pA, pB, pC])
 refine take_met 42 (oi := ⟨_, _, _, _, _, _⟩) (v := ?_) (by kernel_rfl) rfl (by rfl) (fun _ _ _ h => h) (by assumption) ?_ ?_
 rotate_left 1
 ·intro w hSw
  try dsimp only at hSw
  go_simp
  try with_reducible rfl
 (try simp only [Act.put, pA, pB, pC])
 refine wpAnyH_done (by kernel_rfl) ?_ _
 go_wp2_with fail
 go_ret
 exact ⟨rfl, HEZ.out.trans (by (show Ext _ _; repeat first | (with_reducible first | (refine xH ?_; assumption) | exact xR _ | refine xX ?_ _ | refine xA ?_ _) | refine xD ?_ | refine xN ?_ _ | exact xR _))⟩
end Go.Proofs.YtdpbcfjfnclpiaaDoor
