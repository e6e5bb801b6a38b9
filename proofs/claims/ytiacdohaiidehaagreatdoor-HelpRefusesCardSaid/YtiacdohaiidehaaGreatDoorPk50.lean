/- Law 20's asks and Words, with the exact words. -/
import Derived.Test.YtiacdohaiidehaaGreatDoorPk49
namespace Go.Proofs.YtiacdohaiidehaaGreatDoor
set_option linter.unusedSimpArgs false
set_option linter.unusedVariables false
open Go.RowKit
def asksN : List It → Int → Bool
 | [], _ => false
 | x :: l, p => if 56 + x.1 % 6 = p then x.2.2.2.2 else asksN l p
theorem asksN_step {l : List It} {j : Nat} {x : It} {p : Int} (h : l[j]? = some x) : asksN (l.drop j) p = if 56 + x.1 % 6 = p then x.2.2.2.2 else asksN (l.drop (j + 1)) p := by
 obtain ⟨h1, h2⟩ := List.getElem?_eq_some_iff.1 h
 rw [List.drop_eq_getElem_cons h1, h2]
 rfl
theorem asksN_end {l : List It} {j : Nat} {p : Int} {b : Bool} (h : asksN (l.drop j) p = b) (hj : ¬ j < l.length) : b = false := by
 rw [List.drop_eq_nil_of_le (by omega)] at h
 exact h.symm
def BlxPost (x : Bool) (w : World) (y : Ending) (w' : World) : Prop := (∃ b, y = .returned (.bool b) ∧ Hid (x = b)) ∧ ∃ r, w' = ext w r
def setTo (va vb : List Int) (M : List Wd) (n : Nat) : List Wd := (List.range n).foldl (fun M i => M.set (56 + i) (va.getD i 0, vb.getD i 0, 0)) M
theorem setTo_step {va vb : List Int} {M M' : List Wd} {j : Nat} {u t : Int} (h : M' = setTo va vb M j) (hu : va[j]? = some u) (ht : vb[j]? = some t) : M'.set (56 + j) (u, t, 0) = setTo va vb M (j + 1) := by
 unfold setTo
 rw [List.range_succ, List.foldl_append, h]
 simp [setTo, hu, ht]
def putD : List Wd → Nat → List Wd → List Wd
 | M, _, [] => M
 | M, p, d :: D => putD (M.set p d) (p + 1) D
theorem putD_step {M D : List Wd} {p j : Nat} {d : Wd} (h : D[j]? = some d) : putD M (p + j) (D.drop j) = putD (M.set (p + j) d) (p + (j + 1)) (D.drop (j + 1)) := by
 obtain ⟨h1, h2⟩ := List.getElem?_eq_some_iff.1 h
 rw [List.drop_eq_getElem_cons h1, h2]
 rfl
theorem putD_end {M D : List Wd} {p : Nat} {R : List Wd} (h : putD M (p + D.length) (D.drop D.length) = R) : M = R := by
 rw [List.drop_length] at h
 exact h
def heldFrom (il : List It) (r : Int) : List Wd → List En → List Wd
 | M, [] => M
 | M, e :: es => if M[e.loc.toNat]? = some (e.val, e.ver, e.ref) ∧ asksN il e.loc = true then heldFrom il r (M.set e.loc.toNat (e.val, e.ver, r)) es else M
theorem held_end {il : List It} {r : Int} {M R : List Wd} {E : List En} (h : heldFrom il r M (E.drop E.length) = R) : M = R := by
 rw [List.drop_length] at h
 exact h
theorem held_step {il : List It} {r : Int} {M : List Wd} {E : List En} {k p : Nat} {x2 x3 x4 x5 : Int} {x6 : Bool} {y : Wd} (h : E[k]? = some ⟨(p : Int), x2, x3, x4, x5, x6⟩) (hy : M[p]? = some y) : heldFrom il r M (E.drop k) = if y = (x2, x3, x4) ∧ asksN il (p : Int) = true then heldFrom il r (M.set p (x2, x3, r)) (E.drop (k + 1)) else M := by
 obtain ⟨h1, h2⟩ := List.getElem?_eq_some_iff.1 h
 rw [List.drop_eq_getElem_cons h1, h2]
 show (if M[((p : Int)).toNat]? = some (x2, x3, x4) ∧ asksN il (p : Int) = true then heldFrom il r (M.set ((p : Int)).toNat (x2, x3, r)) _ else M) = _
 rw [Int.toNat_natCast, hy]
 simp only [Option.some.injEq]
def sw20 (va vb : List Int) : List Swp → Nat → List Wd → Option (List Wd)
 | [], _, M => some M
 | x :: xs, s, M => if (entsTo va vb x.2 6).length = 0 then sw20 va vb xs (s + 1) M
  else if dcheckN 3 8 1 ((s : Int) + 1) 1 0 (entsTo va vb x.2 6) = 0 then sw20 va vb xs (s + 1) (heldFrom x.2 (((s : Int) + 1) * 16777216 + 1) (putD M (64 + s * 104) (wordsW 1 0 (entsTo va vb x.2 6))) (entsTo va vb x.2 6))
  else none
theorem sw20_step {va vb : List Int} {sw : List Swp} {s : Nat} {x : Swp} (h : sw[s]? = some x) (M : List Wd) : sw20 va vb (sw.drop s) s M = if (entsTo va vb x.2 6).length = 0 then sw20 va vb (sw.drop (s + 1)) (s + 1) M
 else if dcheckN 3 8 1 ((s : Int) + 1) 1 0 (entsTo va vb x.2 6) = 0 then sw20 va vb (sw.drop (s + 1)) (s + 1) (heldFrom x.2 (((s : Int) + 1) * 16777216 + 1) (putD M (64 + s * 104) (wordsW 1 0 (entsTo va vb x.2 6))) (entsTo va vb x.2 6))
 else none := by
 obtain ⟨h1, h2⟩ := List.getElem?_eq_some_iff.1 h
 rw [List.drop_eq_getElem_cons h1, h2]
 rfl
theorem sw20_end {va vb : List Int} {sw : List Swp} {s : Nat} {M : List Wd} {R : Option (List Wd)} (h : sw20 va vb (sw.drop s) s M = R) (hs : ¬ s < sw.length) : R = some M := by
 rw [List.drop_eq_nil_of_le (by omega)] at h
 exact h.symm
def W20xPost (R : Option (List Wd)) (w : World) (y : Ending) (w' : World) : Prop := (∃ r, w' = ext w r) ∧ ((R = none ∧ y = .returned (.tuple #[.slice none 0 0, .bool false])) ∨ ∃ v L, R = some L ∧ y = .returned (.tuple #[v, .bool true]) ∧ Im L ∧ Ws w' w.heap.size v L)
set_option maxRecDepth 100000 in
set_option maxHeartbeats 2000000 in
theorem asks20x_any (l : List It) (v : Value) (p : Int) (hok : ∀ a ∈ l, ItOk a) (hll : l.length ≤ 100000) (w : World) (hs : Szs w) (hv : Sl w 5 itE v l) :
 Calls Tryz.prog 74 #[v, .int .i64 p] w fun y w' => BlxPost (asksN l p) w y w' := by
 have HS := hid hs
 have HV := hid hv
 have HO := hid hok
 obtain ⟨a, c, rfl, hm, hq⟩ := hv
 clear hm hq hs hok
 go_enter Tryz.func74, Tryz.ntmps74
 go_wp2_with fail
 go_loopw [5] (fun i wr => ∃ j : Nat, j ≤ l.length ∧ i = .int .i64 j ∧ Hid (Ext w wr) ∧ Hid (asksN (l.drop j) p = asksN l p)) (fun i _ => l.length - (intOf i).toNat)
 case atStart => exact ⟨0, by omega, rfl, hid (Ext.refl _), hid rfl⟩
 case round =>
 obtain ⟨j, hj, rfl, HX, HN⟩ := hrel
 by_cases hjl : j < l.length
 rotate_left
 ·have hd : decide (j < l.length) = false := decide_eq_false hjl
  have HR := hid (asksN_end HN.out hjl)
  go_wp2_with fail
  go_ret
  exact ⟨⟨_, rfl, hid HR.out⟩, HX.out.trans (by exact exP)⟩
 have hd : decide (j < l.length) = true := decide_eq_true hjl
 have hji : (j : Int) < (l.length : Int) := by omega
 obtain ⟨⟨x1, x2, x3, x4, x5⟩, hx⟩ : ∃ x, l[j]? = some x := ⟨_, List.getElem?_eq_getElem hjl⟩
 have hxo := (HO.out _ (List.mem_of_getElem? hx)).1
 obtain ⟨_, bm, om, hab, hbm, hcm⟩ := Sl.at (HV.out.of itE_len HX.out) hx
 subst hab
 have k0 := hcm 0 (by omega)
 have k4 := hcm 4 (by omega)
 simp [itE] at k0 k4
 obtain ⟨q, hq6, hqe, htm, hwq⟩ := mod6 hxo.1
 have HC := hid (cell31 q (by omega))
 have HS1 := hid (asksN_step (p := p) hx)
 dsimp only at HS1
 rw [hqe] at HS1
 clear hx hcm hxo
 go_upto_region 4 with fail
 have HKp_ := hid (show ∀ w', Ext wr w' → (fun w' => w'.cell? ⟨bm, om + j * 5, none⟩ = some (.int .u8 x1) ∧ w'.cell? ⟨bm, om + j * 5 + 4, none⟩ = some (.bool x5)) w' from fun w' hE_ => ⟨hE_.cell k0, hE_.cell k4⟩)
 refine wp_region_held_drew (S := fun w' => w'.cell? ⟨bm, om + j * 5, none⟩ = some (.int .u8 x1) ∧ w'.cell? ⟨bm, om + j * 5 + 4, none⟩ = some (.bool x5)) (by kernel_rfl) (by exact HKp_.out _ (by exact exF)) (fun hHeld => ?_)
 refine tkm 1 (v := ?_) rfl ?_ ?_
 rotate_left 1
 ·intro w hSw
  try dsimp only at hSw
  go_simp
  try with_reducible rfl
 (try simp only [Act.put, pA, pB, pC])
 refine tkm 2 (v := ?_) rfl ?_ ?_
 rotate_left 1
 ·intro w hSw
  try dsimp only at hSw
  go_simp
  try with_reducible rfl
 (try simp only [Act.put, pA, pB, pC])
 refine tkm 3 (v := ?_) rfl ?_ ?_
 rotate_left 1
 ·intro w hSw
  try dsimp only at hSw
  go_simp
  try with_reducible rfl
 (try simp only [Act.put, pA, pB, pC])
 refine tkm 4 (v := ?_) rfl ?_ ?_
 rotate_left 1
 ·intro w hSw
  try dsimp only at hSw
  go_simp
  try with_reducible rfl
 (try simp only [Act.put, pA, pB, pC])
 refine tkm 5 (v := ?_) rfl ?_ ?_
 rotate_left 1
 ·intro w hSw
  try dsimp only at hSw
  go_simp
  try with_reducible rfl
 (try simp only [Act.put, pA, pB, pC])
 refine tkm 6 (v := ?_) rfl ?_ ?_
 rotate_left 1
 ·intro w hSw
  try dsimp only at hSw
  go_simp
  try with_reducible rfl
 (try simp only [Act.put, pA, pB, pC])
 refine tkm 7 (v := ?_) rfl ?_ ?_
 rotate_left 1
 ·intro w hSw
  try dsimp only at hSw
  go_simp
  try with_reducible rfl
 (try simp only [Act.put, pA, pB, pC])
 refine tkm 9 (v := ?_) rfl ?_ ?_
 rotate_left 1
 ·intro w hSw
  try dsimp only at hSw
  go_simp
  try with_reducible rfl
 (try simp only [Act.put, pA, pB, pC])
 refine take_only 0 (oi := ⟨_, _, _, _, _, _⟩) (by kernel_rfl) rfl (fun K hK => ?_)
 go_simp
 first
  | (go_at_call 7; refine (plan20_any _).mono ?_; rintro e w' ⟨rfl, r1, rfl⟩)
 have hOld := hHeld
 clear hHeld
 refine hK.out _ _ (by exact HKp_.out _ (by exact exF)) (fun hHeld => ?_)
 clear hOld hK K
 (try simp only [Act.put, pA, pB, pC])
 refine take_only 8 (oi := ⟨_, _, _, _, _, _⟩) (by kernel_rfl) rfl (fun K hK => ?_)
 go_simp
 first
  | (go_at_call 24; refine (cell_any 3 8 1 q _ (HS.out.of (HX.out.trans (by exact exP)))).mono ?_; rintro e w' ⟨rfl, r2, rfl⟩; rw [HC.out])
 have hOld := hHeld
 clear hHeld
 refine hK.out _ _ (by exact HKp_.out _ (by exact exF)) (fun hHeld => ?_)
 clear hOld hK K
 (try simp only [Act.put, pA, pB, pC])
 refine tkm 10 (v := ?_) rfl ?_ ?_
 rotate_left 1
 ·intro w hSw
  try dsimp only at hSw
  go_simp
  try with_reducible rfl
 (try simp only [Act.put, pA, pB, pC])
 refine wpAnyH_done (by kernel_rfl) ?_ _
 by_cases he : 56 + (q : Int) = p
 ·have hb : (56 + (q : Int) == p) = true := by simpa using he
  have HR := hid (show asksN l p = x5 by rw [← HN.out, HS1.out, if_pos he])
  clear he
  go_wp2_with fail
  go_ret
  exact ⟨⟨_, rfl, hid HR.out⟩, HX.out.trans (by exact exP)⟩
 ·have hb : (56 + (q : Int) == p) = false := by simpa using he
  have HR := hid (show asksN (l.drop (j + 1)) p = asksN l p by rw [← HN.out, HS1.out, if_neg he])
  clear he
  go_wp2_with fail
  go_roundw
  case rel => exact ⟨j + 1, by omega, by go_num, hid (HX.out.trans (by exact exP)), HR⟩
  case measure => simp [intOf]; omega
section
variable (a0 a1 a2 a3 a4 a5 b0 b1 b2 b3 b4 b5 : Int)
set_option maxRecDepth 100000 in
set_option maxHeartbeats 16000000 in
theorem words20x_any (hva : ∀ a ∈ [a0, a1, a2, a3, a4, a5], -128 ≤ a ∧ a ≤ 127) (hvb : ∀ a ∈ [b0, b1, b2, b3, b4, b5], 0 ≤ a ∧ a ≤ 255) (sv : Value) (sw : List Swp) (w : World) (hs : Szs w) (hv : Sl w 1 swE sv sw) (hk : ∀ a ∈ sw, SwOk w a) (hf : few20 sw = true) :
 Calls Tryz.prog 52 #[.agg #[.int .i8 a0, .int .i8 a1, .int .i8 a2, .int .i8 a3, .int .i8 a4, .int .i8 a5, .int .u8 b0, .int .u8 b1, .int .u8 b2, .int .u8 b3, .int .u8 b4, .int .u8 b5, sv]] w fun y w' => W20xPost (sw20 [a0, a1, a2, a3, a4, a5] [b0, b1, b2, b3, b4, b5] sw 0 (setTo [a0, a1, a2, a3, a4, a5] [b0, b1, b2, b3, b4, b5] (firstL 3 8 1) 6)) w y w' := by
 have HS := hid hs
 have HV := hid hv
 have HK := hid hk
 have HA := hid hva
 have HB := hid hvb
 obtain ⟨hf1, hf2⟩ := few20_len hf
 have HF := hid hf2
 obtain ⟨R, hR⟩ : ∃ R, R = sw20 [a0, a1, a2, a3, a4, a5] [b0, b1, b2, b3, b4, b5] sw 0 (setTo [a0, a1, a2, a3, a4, a5] [b0, b1, b2, b3, b4, b5] (firstL 3 8 1) 6) := ⟨_, rfl⟩
 have HR := hid hR
 rw [← hR]
 clear hR
 obtain ⟨sa, sc, rfl, hm, hq⟩ := hv
 clear hm hq hs hk hva hvb hf hf2
 go_enter Tryz.func52, Tryz.ntmps52
 go_wp2_with fail
 refine (plan20_any _).mono ?_
 rintro e w' ⟨rfl, r1, rfl⟩
 go_wp2_with fail
 refine (first_any 3 8 1 _ (HS.out.of (by exact exP))).mono ?_
 rintro e w' ⟨v5, rfl, ⟨r2, rfl⟩, hv5⟩
 obtain ⟨g, c5, rfl, hgl, hgs⟩ := Ws.open hv5 (by rw [first31]; omega)
 rw [first31] at hv5 ⊢
 go_wp2_with fail
 refine (size_any 3 8 1 _ (HS.out.of (by exact exP))).mono ?_
 rintro e w' ⟨rfl, r3, rfl⟩
 rw [size31]
 go_wp2_with fail
 generalize hU : ext _ r3 = U at *
 have HEU := hid (show Ext w U by rw [← hU]; exact exP)
 have HBc := hid (show Blk U w.heap.size [.int .i8 a0, .int .i8 a1, .int .i8 a2, .int .i8 a3, .int .i8 a4, .int .i8 a5, .int .u8 b0, .int .u8 b1, .int .u8 b2, .int .u8 b3, .int .u8 b4, .int .u8 b5, .slice sa sw.length sc] by rw [← hU]; exact bkP)
 have HBl := hid (show Blk U (w.heap.size + 1 + r1.new.size) [.int .i64 3, .int .i64 8, .int .i64 1] by rw [← hU]; exact bkP)
 have HLU := hid (show Ws U w.heap.size (.slice (some ⟨g, 0, none⟩) 416 c5) (firstL 3 8 1) from by
  have h := Own.mono hv5 (show w.heap.size ≤ _ by simp; omega)
  rw [← hU]
  exact Ws.of h (by exact exP))
 have hgl2 : w.heap.size + 1 + r1.new.size < g := by simp at hgl; omega
 have hgU : g < U.heap.size := by rw [← hU]; simp at hgs ⊢; omega
 generalize hnl : w.heap.size + 1 + r1.new.size = nl at *
 have hwl : w.heap.size < nl := by omega
 clear hU hv5 hgl hgs hnl
 go_loopw [6] (fun i wr => ∃ (j : Nat) (M : List Wd), j ≤ 6 ∧ i = .int .i64 j ∧ Hid (M = setTo [a0, a1, a2, a3, a4, a5] [b0, b1, b2, b3, b4, b5] (firstL 3 8 1) j) ∧ Hid (Im M) ∧ Hid (Ws wr w.heap.size (.slice (some ⟨g, 0, none⟩) 416 c5) M) ∧ Hid (Grn g U wr)) (fun i _ => 6 - (intOf i).toNat)
 case atStart => exact ⟨0, _, by omega, rfl, hid rfl, hid Im.first, HLU, hid Grn.refl⟩
 case round =>
 clear HLU
 obtain ⟨j, M, hj, rfl, HQ, HI, HL, HG⟩ := hrel
 have hUs := HEU.out.size
 have HEw := hid (HEU.out.grn HG.out (by omega))
 have HBcw := hid (HBc.out.grn HG.out (by omega))
 have HBlw := hid (HBl.out.grn HG.out (by omega))
 have hgw : g < wr.heap.size := Nat.lt_of_lt_of_le hgU HG.out.size
 obtain ⟨l0, l1, l2⟩ := HBlw.out.three
 have l4 := HBlw.out.1
 have c0 := HBcw.out.2.2 0 _ rfl
 have c1 := HBcw.out.2.2 1 _ rfl
 have c2 := HBcw.out.2.2 2 _ rfl
 have c3 := HBcw.out.2.2 3 _ rfl
 have c4 := HBcw.out.2.2 4 _ rfl
 have c5' := HBcw.out.2.2 5 _ rfl
 have c6 := HBcw.out.2.2 6 _ rfl
 have c7 := HBcw.out.2.2 7 _ rfl
 have c8 := HBcw.out.2.2 8 _ rfl
 have c9 := HBcw.out.2.2 9 _ rfl
 have c10 := HBcw.out.2.2 10 _ rfl
 have c11 := HBcw.out.2.2 11 _ rfl
 have c12 := HBcw.out.2.2 12 _ rfl
 have c13 := HBcw.out.1
 have hgn : w.heap.size ≠ g := by omega
 have hgn2 : nl ≠ g := by omega
 by_cases hj6 : j < 6
 ·have hjj : (j : Int) < 6 := by omega
  obtain ⟨u, hu⟩ : ∃ u, [a0, a1, a2, a3, a4, a5][j]? = some u := ⟨_, List.getElem?_eq_getElem (by show j < 6; exact hj6)⟩
  obtain ⟨t, ht⟩ : ∃ u, [b0, b1, b2, b3, b4, b5][j]? = some u := ⟨_, List.getElem?_eq_getElem (by show j < 6; exact hj6)⟩
  have hub := HA.out u (List.mem_of_getElem? hu)
  have htb := HB.out t (List.mem_of_getElem? ht)
  have HU := hid hu
  have HT := hid ht
  have HQ2 := hid (setTo_step HQ.out hu ht)
  have HCl := hid (cell31 j (by omega))
  have hML := HI.out.1
  obtain ⟨⟨y1, y2, y3⟩, hy⟩ : ∃ y, M[56 + j]? = some y := ⟨_, List.getElem?_eq_getElem (by rw [hML]; omega)⟩
  obtain ⟨m0, m1, m2⟩ := Ws.cells HL.out hy
  have f0 := Ws.free HL.out ((56 + j) * 3)
  have f1 := Ws.free HL.out ((56 + j) * 3 + 1)
  have f2 := Ws.free HL.out ((56 + j) * 3 + 2)
  have t0 : (0 : Int) ≤ 56 + (j : Int) := by omega
  have t1 : (56 + (j : Int)).toNat = 56 + j := by omega
  have t2 : 56 + (j : Int) < 416 := by omega
  have HML := hid hML
  clear hu ht hy hML
  go_upto_region 8 with fail
  refine wp_region_held_drew (S := fun w' => ((w'.cell? ⟨w.heap.size, 0, none⟩ = some (.int .i8 a0) ∧ w'.cell? ⟨w.heap.size, 1, none⟩ = some (.int .i8 a1) ∧ w'.cell? ⟨w.heap.size, 2, none⟩ = some (.int .i8 a2) ∧ w'.cell? ⟨w.heap.size, 3, none⟩ = some (.int .i8 a3) ∧ w'.cell? ⟨w.heap.size, 4, none⟩ = some (.int .i8 a4) ∧ w'.cell? ⟨w.heap.size, 5, none⟩ = some (.int .i8 a5)) ∧ (w'.cell? ⟨w.heap.size, 6, none⟩ = some (.int .u8 b0) ∧ w'.cell? ⟨w.heap.size, 7, none⟩ = some (.int .u8 b1) ∧ w'.cell? ⟨w.heap.size, 8, none⟩ = some (.int .u8 b2) ∧ w'.cell? ⟨w.heap.size, 9, none⟩ = some (.int .u8 b3) ∧ w'.cell? ⟨w.heap.size, 10, none⟩ = some (.int .u8 b4) ∧ w'.cell? ⟨w.heap.size, 11, none⟩ = some (.int .u8 b5)) ∧ w'.cell? ⟨w.heap.size, 12, none⟩ = some (.slice sa sw.length sc)) ∧ (w'.cell? ⟨nl, 0, none⟩ = some (.int .i64 3) ∧ w'.cell? ⟨nl, 1, none⟩ = some (.int .i64 8) ∧ w'.cell? ⟨nl, 2, none⟩ = some (.int .i64 1))) (by kernel_rfl) (by exact ⟨⟨⟨(show Grn g wr _ from by exact gnP).cell hgn c0, (show Grn g wr _ from by exact gnP).cell hgn c1, (show Grn g wr _ from by exact gnP).cell hgn c2, (show Grn g wr _ from by exact gnP).cell hgn c3, (show Grn g wr _ from by exact gnP).cell hgn c4, (show Grn g wr _ from by exact gnP).cell hgn c5'⟩, ⟨(show Grn g wr _ from by exact gnP).cell hgn c6, (show Grn g wr _ from by exact gnP).cell hgn c7, (show Grn g wr _ from by exact gnP).cell hgn c8, (show Grn g wr _ from by exact gnP).cell hgn c9, (show Grn g wr _ from by exact gnP).cell hgn c10, (show Grn g wr _ from by exact gnP).cell hgn c11⟩, (show Grn g wr _ from by exact gnP).cell hgn c12⟩, (show Grn g wr _ from by exact gnP).cell hgn2 l0, (show Grn g wr _ from by exact gnP).cell hgn2 l1, (show Grn g wr _ from by exact gnP).cell hgn2 l2⟩) (fun hHeld => ?_)
  refine tkm 0 (v := ?_) rfl ?_ ?_
  rotate_left 1
  ·intro w hSw
   try dsimp only at hSw
   go_simp
   try with_reducible rfl
  (try simp only [Act.put, pA, pB, pC])
  refine tkm 1 (v := ?_) rfl ?_ ?_
  rotate_left 1
  ·intro w hSw
   try dsimp only at hSw
   go_simp
   try with_reducible rfl
  (try simp only [Act.put, pA, pB, pC])
  refine tkm 2 (v := ?_) rfl ?_ ?_
  rotate_left 1
  ·intro w hSw
   try dsimp only at hSw
   go_simp
   try with_reducible rfl
  (try simp only [Act.put, pA, pB, pC])
  refine tkm 4 (v := ?_) rfl ?_ ?_
  rotate_left 1
  ·intro w hSw
   try dsimp only at hSw
   go_simp
   try with_reducible rfl
  (try simp only [Act.put, pA, pB, pC])
  refine tkm 5 (v := ?_) rfl ?_ ?_
  rotate_left 1
  ·intro w hSw
   try dsimp only at hSw
   go_simp
   try with_reducible rfl
  (try simp only [Act.put, pA, pB, pC])
  refine take_only 3 (oi := ⟨_, _, _, _, _, _⟩) (by kernel_rfl) rfl (fun K hK => ?_)
  go_simp
  first
   | (go_at_call 24; refine (cell_any 3 8 1 j _ (HS.out.of (HEw.out.trans (by exact exP)))).mono ?_; rintro e w' ⟨rfl, r4, rfl⟩; rw [HCl.out])
  have hOld := hHeld
  clear hHeld
  refine hK.out _ _ (by exact ⟨⟨⟨(show Grn g wr _ from by exact gnP).cell hgn c0, (show Grn g wr _ from by exact gnP).cell hgn c1, (show Grn g wr _ from by exact gnP).cell hgn c2, (show Grn g wr _ from by exact gnP).cell hgn c3, (show Grn g wr _ from by exact gnP).cell hgn c4, (show Grn g wr _ from by exact gnP).cell hgn c5'⟩, ⟨(show Grn g wr _ from by exact gnP).cell hgn c6, (show Grn g wr _ from by exact gnP).cell hgn c7, (show Grn g wr _ from by exact gnP).cell hgn c8, (show Grn g wr _ from by exact gnP).cell hgn c9, (show Grn g wr _ from by exact gnP).cell hgn c10, (show Grn g wr _ from by exact gnP).cell hgn c11⟩, (show Grn g wr _ from by exact gnP).cell hgn c12⟩, (show Grn g wr _ from by exact gnP).cell hgn2 l0, (show Grn g wr _ from by exact gnP).cell hgn2 l1, (show Grn g wr _ from by exact gnP).cell hgn2 l2⟩) (fun hHeld => ?_)
  clear hOld hK K
  (try simp only [Act.put, pA, pB, pC])
  refine take_only 6 (oi := ⟨_, _, _, _, _, _⟩) (by kernel_rfl) rfl (fun K hK => ?_)
  go_simp
  first
   | (go_at_call 71; refine (cell20_any a0 a1 a2 a3 a4 a5 b0 b1 b2 b3 b4 b5 _ sa sw.length sc rfl j hj6 u t HU.out HT.out hub htb _).mono ?_; rintro e w' ⟨rfl, r5, rfl⟩)
  have hOld := hHeld
  clear hHeld
  refine hK.out _ _ (by exact ⟨⟨⟨(show Grn g wr _ from by exact gnP).cell hgn c0, (show Grn g wr _ from by exact gnP).cell hgn c1, (show Grn g wr _ from by exact gnP).cell hgn c2, (show Grn g wr _ from by exact gnP).cell hgn c3, (show Grn g wr _ from by exact gnP).cell hgn c4, (show Grn g wr _ from by exact gnP).cell hgn c5'⟩, ⟨(show Grn g wr _ from by exact gnP).cell hgn c6, (show Grn g wr _ from by exact gnP).cell hgn c7, (show Grn g wr _ from by exact gnP).cell hgn c8, (show Grn g wr _ from by exact gnP).cell hgn c9, (show Grn g wr _ from by exact gnP).cell hgn c10, (show Grn g wr _ from by exact gnP).cell hgn c11⟩, (show Grn g wr _ from by exact gnP).cell hgn c12⟩, (show Grn g wr _ from by exact gnP).cell hgn2 l0, (show Grn g wr _ from by exact gnP).cell hgn2 l1, (show Grn g wr _ from by exact gnP).cell hgn2 l2⟩) (fun hHeld => ?_)
  clear hOld hK K
  (try simp only [Act.put, pA, pB, pC])
  refine tkm 7 (v := ?_) rfl ?_ ?_
  rotate_left 1
  ·intro w hSw
   try dsimp only at hSw
   go_simp
   try with_reducible rfl
  (try simp only [Act.put, pA, pB, pC])
  refine take_only 8 (oi := ⟨_, _, _, _, _, _⟩) (by kernel_rfl) rfl (fun K hK => ?_)
  go_simp
  have hOld := hHeld
  clear hHeld
  refine hK.out _ _ (by exact ⟨⟨⟨(show Grn g wr _ from by exact gnP).cell hgn c0, (show Grn g wr _ from by exact gnP).cell hgn c1, (show Grn g wr _ from by exact gnP).cell hgn c2, (show Grn g wr _ from by exact gnP).cell hgn c3, (show Grn g wr _ from by exact gnP).cell hgn c4, (show Grn g wr _ from by exact gnP).cell hgn c5'⟩, ⟨(show Grn g wr _ from by exact gnP).cell hgn c6, (show Grn g wr _ from by exact gnP).cell hgn c7, (show Grn g wr _ from by exact gnP).cell hgn c8, (show Grn g wr _ from by exact gnP).cell hgn c9, (show Grn g wr _ from by exact gnP).cell hgn c10, (show Grn g wr _ from by exact gnP).cell hgn c11⟩, (show Grn g wr _ from by exact gnP).cell hgn c12⟩, (show Grn g wr _ from by exact gnP).cell hgn2 l0, (show Grn g wr _ from by exact gnP).cell hgn2 l1, (show Grn g wr _ from by exact gnP).cell hgn2 l2⟩) (fun hHeld => ?_)
  clear hOld hK K
  (try simp only [Act.put, pA, pB, pC])
  refine wpAnyH_done (by kernel_rfl) ?_ _
  go_wp2_with fail
  go_roundw
  case rel => exact ⟨j + 1, M.set (56 + j) (u, t, 0), by omega, by go_num, HQ2, hid (HI.out.set _ ⟨⟨by dsimp only; omega, by dsimp only; omega⟩, ⟨by dsimp only; omega, by dsimp only; omega⟩, ⟨by dsimp only; omega, by dsimp only; omega⟩⟩), hid (Ws.put (HL.out.of (by exact exP)) (by rw [HML.out]; omega) u t 0), hid ((((HG.out.trans (Grn.of_ext (by exact exP))).setCell _ _).setCell _ _).setCell _ _)⟩
  case measure => simp [intOf]; omega
 have hjj : ¬ (j : Int) < 6 := by omega
 obtain rfl : j = 6 := by omega
 have HI1 := hid HI.out
 have HL1 := hid HL.out
 have HQ1 := hid (show sw20 [a0, a1, a2, a3, a4, a5] [b0, b1, b2, b3, b4, b5] (sw.drop 0) 0 M = R by rw [HR.out, HQ.out]; rfl)
 clear hj hj6 HI HL HQ c0 c1 c2 c3 c4 c5' c6 c7 c8 c9 c10 c11 c12 c13 l0 l1 l2 l4
 go_wp2_with fail
 go_loopw [7] (fun i wk => ∃ (s : Nat) (M : List Wd), s ≤ sw.length ∧ i = .int .i64 s ∧ Hid (sw20 [a0, a1, a2, a3, a4, a5] [b0, b1, b2, b3, b4, b5] (sw.drop s) s M = R) ∧ Hid (Im M) ∧ Hid (Ws wk w.heap.size (.slice (some ⟨g, 0, none⟩) 416 c5) M) ∧ Hid (Grn g U wk)) (fun i _ => sw.length - (intOf i).toNat)
 case atStart => exact ⟨0, _, by omega, rfl, HQ1, HI1, HL1, HG⟩
 case round =>
 clear HQ1 HI1 HL1 HG HEw HBcw HBlw hgw
 obtain ⟨s, M, hsl, rfl, HQ, HI, HL, HG⟩ := hrel
 have HEw := hid (HEU.out.grn HG.out (by omega))
 have HBcw := hid (HBc.out.grn HG.out (by omega))
 have HBlw := hid (HBl.out.grn HG.out (by omega))
 have hgw : g < wr.heap.size := Nat.lt_of_lt_of_le hgU HG.out.size
 obtain ⟨l0, l1, l2⟩ := HBlw.out.three
 have l4 := HBlw.out.1
 have c0 := HBcw.out.2.2 0 _ rfl
 have c1 := HBcw.out.2.2 1 _ rfl
 have c2 := HBcw.out.2.2 2 _ rfl
 have c3 := HBcw.out.2.2 3 _ rfl
 have c4 := HBcw.out.2.2 4 _ rfl
 have c5' := HBcw.out.2.2 5 _ rfl
 have c6 := HBcw.out.2.2 6 _ rfl
 have c7 := HBcw.out.2.2 7 _ rfl
 have c8 := HBcw.out.2.2 8 _ rfl
 have c9 := HBcw.out.2.2 9 _ rfl
 have c10 := HBcw.out.2.2 10 _ rfl
 have c11 := HBcw.out.2.2 11 _ rfl
 have c12 := HBcw.out.2.2 12 _ rfl
 have c13 := HBcw.out.1
 by_cases hsn : s < sw.length
 rotate_left
 ·have hd : decide (s < sw.length) = false := decide_eq_false hsn
  have HRe := hid (sw20_end HQ.out hsn)
  go_wp2_with fail
  go_ret2
  exact ⟨HEw.out, .inr ⟨_, M, HRe.out, rfl, HI.out, HL.out⟩⟩
 have hd : decide (s < sw.length) = true := decide_eq_true hsn
 have hsi : (s : Int) < (sw.length : Int) := by omega
 obtain ⟨⟨iv, il⟩, hx⟩ : ∃ x, sw[s]? = some x := ⟨_, List.getElem?_eq_getElem hsn⟩
 have HSt := hid (sw20_step (va := [a0, a1, a2, a3, a4, a5]) (vb := [b0, b1, b2, b3, b4, b5]) hx M)
 dsimp only at HSt
 rw [HQ.out] at HSt
 have hok := HK.out _ (List.mem_of_getElem? hx)
 have hi6 := HF.out _ (List.mem_of_getElem? hx)
 dsimp only at hi6
 obtain ⟨_, bm, om, hab, hbm, hcm⟩ := Sl.at (HV.out.of swE_len HEw.out) hx
 subst hab
 have q0 := hcm 0 (by omega)
 simp [swE] at q0
 obtain ⟨hit, hio⟩ := hok
 have HIt := hid hit
 have HIo := hid hio
 obtain ⟨ia, ic, hvl, _, _⟩ := hit
 dsimp only at hvl
 subst hvl
 have hbg : bm ≠ g := by
  obtain ⟨_, b', o', hab', hb', _⟩ := Sl.at HV.out hx
  cases hab'
  omega
 dsimp only at HIt HIo
 have HQ0 := hid (show w.cell? ⟨bm, om + s, none⟩ = some (.slice ia il.length ic) by
  obtain ⟨_, b', o', hab', _, hc'⟩ := Sl.at HV.out hx
  cases hab'
  have h := hc' 0 (by omega)
  simpa [swE] using h)
 clear hx hcm hio
 go_upto_region 12 with fail
 have HKp_ := hid (show ∀ w', Ext wr w' → (fun w' => (((w'.cell? ⟨w.heap.size, 0, none⟩ = some (.int .i8 a0) ∧ w'.cell? ⟨w.heap.size, 1, none⟩ = some (.int .i8 a1) ∧ w'.cell? ⟨w.heap.size, 2, none⟩ = some (.int .i8 a2) ∧ w'.cell? ⟨w.heap.size, 3, none⟩ = some (.int .i8 a3) ∧ w'.cell? ⟨w.heap.size, 4, none⟩ = some (.int .i8 a4) ∧ w'.cell? ⟨w.heap.size, 5, none⟩ = some (.int .i8 a5)) ∧ (w'.cell? ⟨w.heap.size, 6, none⟩ = some (.int .u8 b0) ∧ w'.cell? ⟨w.heap.size, 7, none⟩ = some (.int .u8 b1) ∧ w'.cell? ⟨w.heap.size, 8, none⟩ = some (.int .u8 b2) ∧ w'.cell? ⟨w.heap.size, 9, none⟩ = some (.int .u8 b3) ∧ w'.cell? ⟨w.heap.size, 10, none⟩ = some (.int .u8 b4) ∧ w'.cell? ⟨w.heap.size, 11, none⟩ = some (.int .u8 b5)) ∧ w'.cell? ⟨w.heap.size, 12, none⟩ = some (.slice (some ⟨bm, om, none⟩) sw.length sc))) ∧ w'.cell? ⟨bm, om + s, none⟩ = some (.slice ia il.length ic)) w' from fun w' hE_ => ⟨⟨⟨hE_.cell c0, hE_.cell c1, hE_.cell c2, hE_.cell c3, hE_.cell c4, hE_.cell c5'⟩, ⟨hE_.cell c6, hE_.cell c7, hE_.cell c8, hE_.cell c9, hE_.cell c10, hE_.cell c11⟩, hE_.cell c12⟩, hE_.cell q0⟩)
 refine wp_region_held_drew (S := fun w' => (((w'.cell? ⟨w.heap.size, 0, none⟩ = some (.int .i8 a0) ∧ w'.cell? ⟨w.heap.size, 1, none⟩ = some (.int .i8 a1) ∧ w'.cell? ⟨w.heap.size, 2, none⟩ = some (.int .i8 a2) ∧ w'.cell? ⟨w.heap.size, 3, none⟩ = some (.int .i8 a3) ∧ w'.cell? ⟨w.heap.size, 4, none⟩ = some (.int .i8 a4) ∧ w'.cell? ⟨w.heap.size, 5, none⟩ = some (.int .i8 a5)) ∧ (w'.cell? ⟨w.heap.size, 6, none⟩ = some (.int .u8 b0) ∧ w'.cell? ⟨w.heap.size, 7, none⟩ = some (.int .u8 b1) ∧ w'.cell? ⟨w.heap.size, 8, none⟩ = some (.int .u8 b2) ∧ w'.cell? ⟨w.heap.size, 9, none⟩ = some (.int .u8 b3) ∧ w'.cell? ⟨w.heap.size, 10, none⟩ = some (.int .u8 b4) ∧ w'.cell? ⟨w.heap.size, 11, none⟩ = some (.int .u8 b5)) ∧ w'.cell? ⟨w.heap.size, 12, none⟩ = some (.slice (some ⟨bm, om, none⟩) sw.length sc))) ∧ w'.cell? ⟨bm, om + s, none⟩ = some (.slice ia il.length ic)) (by kernel_rfl) (by exact HKp_.out _ (by exact exF)) (fun hHeld => ?_)
 refine tkm 0 (v := ?_) rfl ?_ ?_
 rotate_left 1
 ·intro w hSw
  try dsimp only at hSw
  go_simp
  try with_reducible rfl
 (try simp only [Act.put, pA, pB, pC])
 refine tkm 1 (v := ?_) rfl ?_ ?_
 rotate_left 1
 ·intro w hSw
  try dsimp only at hSw
  go_simp
  try with_reducible rfl
 (try simp only [Act.put, pA, pB, pC])
 refine tkm 2 (v := ?_) rfl ?_ ?_
 rotate_left 1
 ·intro w hSw
  try dsimp only at hSw
  go_simp
  try with_reducible rfl
 (try simp only [Act.put, pA, pB, pC])
 refine tkm 3 (v := ?_) rfl ?_ ?_
 rotate_left 1
 ·intro w hSw
  try dsimp only at hSw
  go_simp
  try with_reducible rfl
 (try simp only [Act.put, pA, pB, pC])
 refine tkm 4 (v := ?_) rfl ?_ ?_
 rotate_left 1
 ·intro w hSw
  try dsimp only at hSw
  go_simp
  try with_reducible rfl
 (try simp only [Act.put, pA, pB, pC])
 refine tkm 5 (v := ?_) rfl ?_ ?_
 rotate_left 1
 ·intro w hSw
  try dsimp only at hSw
  go_simp
  try with_reducible rfl
 (try simp only [Act.put, pA, pB, pC])
 refine take_only 6 (oi := ⟨_, _, _, _, _, _⟩) (by kernel_rfl) rfl (fun K hK => ?_)
 go_simp
 first
  | (go_at_call 72; refine (ents20_any a0 a1 a2 a3 a4 a5 b0 b1 b2 b3 b4 b5 HA.out HB.out _ sw.length sc il _ HIo.out (by omega) _ (HS.out.of (HEw.out.trans (by exact exP))) (HIt.out.of itE_len (HEw.out.trans (by exact exP)))).mono ?_; rintro y w' ⟨v8, rfl, ⟨r6, rfl⟩, hv8⟩)
 have hOld := hHeld
 clear hHeld
 refine hK.out _ _ (by exact HKp_.out _ (by exact exF)) (fun hHeld => ?_)
 clear hOld hK K
 (try simp only [Act.put, pA, pB, pC])
 refine tkm 7 (v := ?_) rfl ?_ ?_
 rotate_left 1
 ·intro w hSw
  try dsimp only at hSw
  go_simp
  try with_reducible rfl
 (try simp only [Act.put, pA, pB, pC])
 refine wpAnyH_done (by kernel_rfl) ?_ _
 clear hHeld
 obtain ⟨E, hE⟩ : ∃ E, E = entsTo [a0, a1, a2, a3, a4, a5] [b0, b1, b2, b3, b4, b5] il 6 := ⟨_, rfl⟩
 have hEl := entsTo_len [a0, a1, a2, a3, a4, a5] [b0, b1, b2, b3, b4, b5] il 6
 have hEo := entsTo_ok (n := 6) (Nat.le_refl _) HA.out HB.out HIo.out
 rw [← hE] at hv8 hEl hEo
 rw [← hE] at HSt
 have HEo := hid hEo
 obtain ⟨a8, c8', rfl⟩ := Own.shape hv8
 generalize hX : ext _ r6 = X at *
 have HEX0 := hid (show Ext wr X by rw [← hX]; exact exP)
 have HEX := hid (HEw.out.trans HEX0.out)
 have HEs := hid (show Es X (.slice a8 E.length c8') E from Sl.of_own enE_len hv8)
 have HApE := hid (Own.apart hv8 hgw)
 have HBcX := hid (HBcw.out.of HEX0.out)
 have HBlX := hid (HBlw.out.of HEX0.out)
 have HLX := hid (HL.out.of HEX0.out)
 have HGX := hid (HG.out.trans (Grn.of_ext HEX0.out))
 have hgX : g < X.heap.size := Nat.lt_of_lt_of_le hgw HEX0.out.size
 clear hX hv8 hE hEo c0 c1 c2 c3 c4 c5' c6 c7 c8 c9 c10 c11 c12 c13 l0 l1 l2 l4 q0 HEw HBcw HBlw HL HG hgw HEX0
 obtain ⟨l0, l1, l2⟩ := HBlX.out.three
 have l4 := HBlX.out.1
 by_cases hE0 : E.length = 0
 ·have hb : ((E.length : Int) == 0) = true := by simp [hE0]
  have HQn := hid (show sw20 [a0, a1, a2, a3, a4, a5] [b0, b1, b2, b3, b4, b5] (sw.drop (s + 1)) (s + 1) M = R by have h := HSt.out; rw [if_pos hE0] at h; exact h.symm)
  clear hE0
  go_wp2_with fail
  go_roundw
  case rel => exact ⟨s + 1, M, by omega, by go_num, HQn, HI, HLX, HGX⟩
  case measure => simp [intOf]; omega
 have hb : ((E.length : Int) == 0) = false := beq_eq_false_iff_ne.2 (by omega)
 rw [if_neg hE0] at HSt
 clear hE0
 have hs3 : s < 3 := by omega
 have hws : IntKind.i64.wrap ((s : Int) + 1) = (s : Int) + 1 := IntWalk.i64_in _ (by omega)
 go_wp2_with fail
 refine (dwords_any 3 8 1 ((s : Int) + 1) 1 0 (by omega) (by omega) E _ (fun e he => (HEo.out e he).1) _ (HS.out.of (HEX.out.trans (by exact exP))) (HEs.out.of enE_len (by exact exP))).mono ?_
 rintro y w' ⟨v9, rfl, ⟨r7, rfl⟩, hv9⟩
 by_cases hdc : dcheckN 3 8 1 ((s : Int) + 1) 1 0 E = 0
 rotate_left
 ·have hb2 : (dcheckN 3 8 1 ((s : Int) + 1) 1 0 E != 0) = true := by simpa using hdc
  rw [if_neg hdc] at hv9
  rw [if_neg hdc] at HSt
  obtain ⟨a9, c9', rfl⟩ := Own.shape hv9
  clear hdc hv9
  go_wp2_with fail
  go_ret2
  exact ⟨HEX.out.trans (by exact exP), .inl ⟨HSt.out, rfl⟩⟩
 rw [if_pos hdc] at hv9
 rw [if_pos hdc] at HSt
 rw [hdc]
 obtain ⟨D, hD⟩ : ∃ D, D = wordsW 1 0 E := ⟨_, rfl⟩
 rw [← hD] at hv9
 rw [← hD] at HSt
 have hDl : D.length = 2 + 3 * E.length := by rw [hD, wordsW_len]
 have HDo := hid (show ∀ a ∈ D, WdOk a by rw [hD]; exact wordsW_ok (by omega) (by omega) (by omega) (fun e he => (HEo.out e he).1))
 have hDb : D.length ≤ 20 := by omega
 obtain ⟨g9, c9', rfl, hg9, _⟩ := Ws.open hv9 (by omega)
 clear hDl hD
 go_wp2_with fail
 generalize hV : ext _ r7 = V at *
 have HEV0 := hid (show Ext X V by rw [← hV]; exact exP)
 have HEV := hid (HEX.out.trans HEV0.out)
 have HSD := hid (show Sl V 3 wdE (.slice (some ⟨g9, 0, none⟩) D.length c9') D from Sl.of_own wdE_len hv9)
 have HEsV := hid (HEs.out.of enE_len HEV0.out)
 have HBcV := hid (HBcX.out.of HEV0.out)
 have HBlV := hid (HBlX.out.of HEV0.out)
 have HLV := hid (HLX.out.of HEV0.out)
 have HGV := hid (HGX.out.trans (Grn.of_ext HEV0.out))
 have hgV : g < V.heap.size := Nat.lt_of_lt_of_le hgX HEV0.out.size
 have hg9g : g9 ≠ g := by have h1 := hg9; (try simp at h1); omega
 have HI3 := hid HI.out
 clear hV hv9 hg9 hdc HEs HBcX HBlX HLX HGX hgX HEV0 HEX HI l0 l1 l2 l4
 go_loopw [11] (fun i wk => ∃ (j : Nat) (M3 : List Wd), j ≤ D.length ∧ i = .int .i64 j ∧ Hid (putD M3 (64 + s * 104 + j) (D.drop j) = putD M (64 + s * 104) D) ∧ Hid (Im M3) ∧ Hid (Ws wk w.heap.size (.slice (some ⟨g, 0, none⟩) 416 c5) M3) ∧ Hid (Grn g V wk)) (fun i _ => D.length - (intOf i).toNat)
 case atStart => exact ⟨0, _, by omega, rfl, hid rfl, HI3, HLV, hid Grn.refl⟩
 case round =>
 clear HI3 HLV
 obtain ⟨j, M3, hj, rfl, HQ3, HI, HL, HG⟩ := hrel
 have hVs := HEV.out.size
 have HEw := hid (HEV.out.grn HG.out (by omega))
 have HBlw := hid (HBlV.out.grn HG.out (by omega))
 have hgw : g < wr.heap.size := Nat.lt_of_lt_of_le hgV HG.out.size
 obtain ⟨l0, l1, l2⟩ := HBlw.out.three
 have l4 := HBlw.out.1
 by_cases hjd : j < D.length
 ·have hdj : decide (j < D.length) = true := decide_eq_true hjd
  have hji : (j : Int) < (D.length : Int) := by omega
  obtain ⟨⟨u1, u2, u3⟩, hu⟩ : ∃ u, D[j]? = some u := ⟨_, List.getElem?_eq_getElem hjd⟩
  have huo := HDo.out _ (List.mem_of_getElem? hu)
  have HUo := hid huo
  obtain ⟨hq5, b4, o4, ha4, hbl, hcx⟩ := Sl.at (HSD.out.grn wdE_len HG.out hg9g) hu
  cases ha4
  have k0 := hcx 0 (by omega)
  have k1 := hcx 1 (by omega)
  have k2 := hcx 2 (by omega)
  simp [wdE] at k0 k1 k2
  have hML := HI.out.1
  have HQ4 := hid (putD_step (M := M3) (p := 64 + s * 104) hu)
  rw [HQ3.out] at HQ4
  obtain ⟨p, hp⟩ : ∃ p, p = 64 + s * 104 := ⟨_, rfl⟩
  have HP := hid hp
  have HSl := hid (show atN 3 8 1 4 (wrap64 ((s : Int) + 1 - 1)) 0 = (p : Int) by rw [hp]; exact slot31 s hs3)
  have hpj : p + j < 416 := by omega
  obtain ⟨⟨y1, y2, y3⟩, hy⟩ : ∃ y, M3[p + j]? = some y := ⟨_, List.getElem?_eq_getElem (by rw [hML]; omega)⟩
  obtain ⟨m0, m1, m2⟩ := Ws.cells HL.out hy
  have f0 := Ws.free HL.out ((p + j) * 3)
  have f1 := Ws.free HL.out ((p + j) * 3 + 1)
  have f2 := Ws.free HL.out ((p + j) * 3 + 2)
  have t1 : ((p : Int) + (j : Int)).toNat = p + j := by omega
  have t0 : (0 : Int) ≤ (p : Int) + (j : Int) := by omega
  have t2 : (p : Int) + (j : Int) < 416 := by omega
  have t3 : IntKind.i64.wrap ((p : Int) + (j : Int)) = (p : Int) + (j : Int) := IntWalk.i64_in _ (by omega)
  have HML := hid hML
  clear hcx hq5 hu hy hbl huo hML hp
  go_upto_region 20 with fail
  refine wp_region_held_drew (S := fun w' => (w'.cell? ⟨nl, 0, none⟩ = some (.int .i64 3) ∧ w'.cell? ⟨nl, 1, none⟩ = some (.int .i64 8) ∧ w'.cell? ⟨nl, 2, none⟩ = some (.int .i64 1)) ∧ (w'.cell? ⟨g9, j * 3, none⟩ = some (.int .i64 u1) ∧ w'.cell? ⟨g9, j * 3 + 1, none⟩ = some (.int .u32 u2) ∧ w'.cell? ⟨g9, j * 3 + 2, none⟩ = some (.int .u32 u3))) (by kernel_rfl) (by exact ⟨⟨(show Grn g wr _ from by exact gnP).cell hgn2 l0, (show Grn g wr _ from by exact gnP).cell hgn2 l1, (show Grn g wr _ from by exact gnP).cell hgn2 l2⟩, (show Grn g wr _ from by exact gnP).cell hg9g k0, (show Grn g wr _ from by exact gnP).cell hg9g k1, (show Grn g wr _ from by exact gnP).cell hg9g k2⟩) (fun hHeld => ?_)
  refine tkm 0 (v := ?_) rfl ?_ ?_
  rotate_left 1
  ·intro w hSw
   try dsimp only at hSw
   go_simp
   try with_reducible rfl
  (try simp only [Act.put, pA, pB, pC])
  refine tkm 1 (v := ?_) rfl ?_ ?_
  rotate_left 1
  ·intro w hSw
   try dsimp only at hSw
   go_simp
   try with_reducible rfl
  (try simp only [Act.put, pA, pB, pC])
  refine tkm 2 (v := ?_) rfl ?_ ?_
  rotate_left 1
  ·intro w hSw
   try dsimp only at hSw
   go_simp
   try with_reducible rfl
  (try simp only [Act.put, pA, pB, pC])
  refine tkm 3 (v := ?_) rfl ?_ ?_
  rotate_left 1
  ·intro w hSw
   try dsimp only at hSw
   go_simp
   try with_reducible rfl
  (try simp only [Act.put, pA, pB, pC])
  refine tkm 5 (v := ?_) rfl ?_ ?_
  rotate_left 1
  ·intro w hSw
   try dsimp only at hSw
   go_simp
   try with_reducible rfl
  (try simp only [Act.put, pA, pB, pC])
  refine tkm 7 (v := ?_) rfl ?_ ?_
  rotate_left 1
  ·intro w hSw
   try dsimp only at hSw
   go_simp
   try with_reducible rfl
  (try simp only [Act.put, pA, pB, pC])
  refine tkm 8 (v := ?_) rfl ?_ ?_
  rotate_left 1
  ·intro w hSw
   try dsimp only at hSw
   go_simp
   try with_reducible rfl
  (try simp only [Act.put, pA, pB, pC])
  refine tkm 9 (v := ?_) rfl ?_ ?_
  rotate_left 1
  ·intro w hSw
   try dsimp only at hSw
   go_simp
   try with_reducible rfl
  (try simp only [Act.put, pA, pB, pC])
  refine tkm 10 (v := ?_) rfl ?_ ?_
  rotate_left 1
  ·intro w hSw
   try dsimp only at hSw
   go_simp
   try with_reducible rfl
  (try simp only [Act.put, pA, pB, pC])
  refine take_only 4 (oi := ⟨_, _, _, _, _, _⟩) (by kernel_rfl) rfl (fun K hK => ?_)
  go_simp
  first
   | (go_at_call 25; refine (slot_any 3 8 1 ((s : Int) + 1) _ (HS.out.of (HEw.out.trans (by exact exP)))).mono ?_; rintro e w' ⟨rfl, r9, rfl⟩; rw [HSl.out])
  have hOld := hHeld
  clear hHeld
  refine hK.out _ _ (by exact ⟨⟨(show Grn g wr _ from by exact gnP).cell hgn2 l0, (show Grn g wr _ from by exact gnP).cell hgn2 l1, (show Grn g wr _ from by exact gnP).cell hgn2 l2⟩, (show Grn g wr _ from by exact gnP).cell hg9g k0, (show Grn g wr _ from by exact gnP).cell hg9g k1, (show Grn g wr _ from by exact gnP).cell hg9g k2⟩) (fun hHeld => ?_)
  clear hOld hK K
  (try simp only [Act.put, pA, pB, pC])
  refine tkm 6 (v := ?_) rfl ?_ ?_
  rotate_left 1
  ·intro w hSw
   try dsimp only at hSw
   go_simp
   try with_reducible rfl
  (try simp only [Act.put, pA, pB, pC])
  refine tkm 11 (v := ?_) rfl ?_ ?_
  rotate_left 1
  ·intro w hSw
   try dsimp only at hSw
   go_simp
   try with_reducible rfl
  (try simp only [Act.put, pA, pB, pC])
  refine take_only 12 (oi := ⟨_, _, _, _, _, _⟩) (by kernel_rfl) rfl (fun K hK => ?_)
  go_simp
  have hOld := hHeld
  clear hHeld
  refine hK.out _ _ (by exact ⟨⟨(show Grn g wr _ from by exact gnP).cell hgn2 l0, (show Grn g wr _ from by exact gnP).cell hgn2 l1, (show Grn g wr _ from by exact gnP).cell hgn2 l2⟩, (show Grn g wr _ from by exact gnP).cell hg9g k0, (show Grn g wr _ from by exact gnP).cell hg9g k1, (show Grn g wr _ from by exact gnP).cell hg9g k2⟩) (fun hHeld => ?_)
  clear hOld hK K
  (try simp only [Act.put, pA, pB, pC])
  refine wpAnyH_done (by kernel_rfl) ?_ _
  go_wp2_with fail
  go_roundw
  case rel => exact ⟨j + 1, M3.set (p + j) (u1, u2, u3), by omega, by go_num, hid (by rw [HP.out]; exact HQ4.out.symm), hid (HI.out.set _ HUo.out), hid (Ws.put (HL.out.of (by exact exP)) (by rw [HML.out]; omega) u1 u2 u3), hid ((((HG.out.trans (Grn.of_ext (by exact exP))).setCell _ _).setCell _ _).setCell _ _)⟩
  case measure => simp [intOf]; omega
 have hdj : decide (j < D.length) = false := decide_eq_false hjd
 obtain rfl : j = D.length := by omega
 have HI4 := hid HI.out
 have HL4 := hid HL.out
 have HQ5 := hid (putD_end HQ3.out)
 have HG4 := hid HG.out
 clear hj hjd HI HL HG HQ3 HEw HBlw hgw l0 l1 l2 l4
 go_wp2_with fail
 go_loopw [12] (fun i wk => ∃ (k : Nat) (M4 : List Wd), k ≤ E.length ∧ i = .int .i64 k ∧ Hid (heldFrom il (((s : Int) + 1) * 16777216 + 1) M4 (E.drop k) = heldFrom il (((s : Int) + 1) * 16777216 + 1) (putD M (64 + s * 104) D) E) ∧ Hid (Im M4) ∧ Hid (Ws wk w.heap.size (.slice (some ⟨g, 0, none⟩) 416 c5) M4) ∧ Hid (Grn g V wk)) (fun i _ => E.length - (intOf i).toNat)
 case atStart => exact ⟨0, _, by omega, rfl, hid (by rw [HQ5.out]; rfl), HI4, HL4, HG4⟩
 case round =>
 clear HI4 HL4 HG4
 obtain ⟨k, M4, hk, rfl, HQ6, HI, HL, HG⟩ := hrel
 have HEw := hid (HEV.out.grn HG.out (by omega))
 have HBcw := hid (HBcV.out.grn HG.out (by omega))
 have HGt := hid (HGV.out.trans HG.out)
 have hgw : g < wr.heap.size := Nat.lt_of_lt_of_le hgV HG.out.size
 by_cases hke : k < E.length
 rotate_left
 ·have hdk : decide (k < E.length) = false := decide_eq_false hke
  obtain rfl : k = E.length := by omega
  have HQn := hid (show sw20 [a0, a1, a2, a3, a4, a5] [b0, b1, b2, b3, b4, b5] (sw.drop (s + 1)) (s + 1) M4 = R by rw [held_end HQ6.out]; exact HSt.out.symm)
  go_wp2_with fail
  go_roundw
  case rel => exact ⟨s + 1, M4, by omega, by go_num, HQn, HI, HL, HGt⟩
  case measure => simp [intOf]; omega
 have hdk : decide (k < E.length) = true := decide_eq_true hke
 have hki : (k : Int) < (E.length : Int) := by omega
 obtain ⟨⟨x1, x2, x3, x4, x5, x6⟩, hx⟩ : ∃ x, E[k]? = some x := ⟨_, List.getElem?_eq_getElem hke⟩
 obtain ⟨hxo, hxl, hxh⟩ := HEo.out _ (List.mem_of_getElem? hx)
 dsimp only at hxl hxh
 obtain ⟨p, rfl⟩ := Int.eq_ofNat_of_zero_le (show 0 ≤ x1 by omega)
 obtain ⟨hq5, be, oe, hab, hbe, hcx⟩ := Sl.at (HEsV.out.grnV enE_len HG.out HApE.out) hx
 have hbeg : be ≠ g := by subst hab; have := HApE.out _ _ _ rfl; simpa using this
 subst hab
 clear hq5
 have e0 := hcx 0 (by omega)
 have e1 := hcx 1 (by omega)
 have e2 := hcx 2 (by omega)
 have e3 := hcx 3 (by omega)
 simp [enE] at e0 e1 e2 e3
 have hML := HI.out.1
 obtain ⟨⟨y1, y2, y3⟩, hy⟩ : ∃ y, M4[p]? = some y := ⟨_, List.getElem?_eq_getElem (by rw [hML]; omega)⟩
 have HMy := hid hy
 have HQ7 := hid (held_step (il := il) (r := ((s : Int) + 1) * 16777216 + 1) hx hy)
 rw [HQ6.out] at HQ7
 have hyo := HI.out.2 _ (List.mem_of_getElem? hy)
 have HYo := hid hyo
 obtain ⟨m0, m1, m2⟩ := Ws.cells HL.out hy
 have f2 := Ws.free HL.out (p * 3 + 2)
 have t2 : (p : Int) < 416 := by omega
 have c12 := HBcw.out.2.2 12 _ rfl
 have c13 := HBcw.out.1
 have hne := neq_word y1 y2 y3 x2 x3 x4
 have hga := eq_guard_word
 have q0 : wr.cell? ⟨bm, om + s, none⟩ = some (.slice ia il.length ic) := HEw.out.cell HQ0.out
 clear hcx hx hy hyo hML hxo
 go_upto_region 24 with fail
 cases hwd : wdB (y1, y2, y3) (x2, x3, x4)
 ·rw [hwd] at hne
  have HQn := hid (show sw20 [a0, a1, a2, a3, a4, a5] [b0, b1, b2, b3, b4, b5] (sw.drop (s + 1)) (s + 1) M4 = R by
   have h := HQ7.out
   rw [if_neg (by rintro ⟨h1, _⟩; rw [wdB, decide_eq_false_iff_not] at hwd; exact hwd h1)] at h
   rw [← h]; exact HSt.out.symm)
  clear hwd
  have HKp_ := hid (show ∀ w', Ext wr w' → (fun w' => (w'.cell? ⟨be, oe + k * 6, none⟩ = some (.int .i64 p) ∧ w'.cell? ⟨be, oe + k * 6 + 1, none⟩ = some (.int .i64 x2) ∧ w'.cell? ⟨be, oe + k * 6 + 2, none⟩ = some (.int .u32 x3) ∧ w'.cell? ⟨be, oe + k * 6 + 3, none⟩ = some (.int .u32 x4)) ∧ (w'.cell? ⟨g, p * 3, none⟩ = some (.int .i64 y1) ∧ w'.cell? ⟨g, p * 3 + 1, none⟩ = some (.int .u32 y2) ∧ w'.cell? ⟨g, p * 3 + 2, none⟩ = some (.int .u32 y3))) w' from fun w' hE_ => ⟨⟨hE_.cell e0, hE_.cell e1, hE_.cell e2, hE_.cell e3⟩, hE_.cell m0, hE_.cell m1, hE_.cell m2⟩)
  refine wp_region_held_drew (S := fun w' => (w'.cell? ⟨be, oe + k * 6, none⟩ = some (.int .i64 p) ∧ w'.cell? ⟨be, oe + k * 6 + 1, none⟩ = some (.int .i64 x2) ∧ w'.cell? ⟨be, oe + k * 6 + 2, none⟩ = some (.int .u32 x3) ∧ w'.cell? ⟨be, oe + k * 6 + 3, none⟩ = some (.int .u32 x4)) ∧ (w'.cell? ⟨g, p * 3, none⟩ = some (.int .i64 y1) ∧ w'.cell? ⟨g, p * 3 + 1, none⟩ = some (.int .u32 y2) ∧ w'.cell? ⟨g, p * 3 + 2, none⟩ = some (.int .u32 y3))) (by kernel_rfl) (by exact HKp_.out _ (by exact exF)) (fun hHeld => ?_)
  refine tkm 0 (v := ?_) rfl ?_ ?_
  rotate_left 1
  ·intro w hSw
   try dsimp only at hSw
   go_simp
   try with_reducible rfl
  (try simp only [Act.put, pA, pB, pC])
  refine tkm 1 (v := ?_) rfl ?_ ?_
  rotate_left 1
  ·intro w hSw
   try dsimp only at hSw
   go_simp
   try with_reducible rfl
  (try simp only [Act.put, pA, pB, pC])
  refine tkm 2 (v := ?_) rfl ?_ ?_
  rotate_left 1
  ·intro w hSw
   try dsimp only at hSw
   go_simp
   try with_reducible rfl
  (try simp only [Act.put, pA, pB, pC])
  refine tkm 3 (v := ?_) rfl ?_ ?_
  rotate_left 1
  ·intro w hSw
   try dsimp only at hSw
   go_simp
   try with_reducible rfl
  (try simp only [Act.put, pA, pB, pC])
  refine tkm 4 (v := ?_) rfl ?_ ?_
  rotate_left 1
  ·intro w hSw
   try dsimp only at hSw
   go_simp
   try with_reducible rfl
  (try simp only [Act.put, pA, pB, pC])
  refine tkm 5 (v := ?_) rfl ?_ ?_
  rotate_left 1
  ·intro w hSw
   try dsimp only at hSw
   go_simp
   try with_reducible rfl
  (try simp only [Act.put, pA, pB, pC])
  refine tkm 6 (v := ?_) rfl ?_ ?_
  rotate_left 1
  ·intro w hSw
   try dsimp only at hSw
   go_simp
   try with_reducible rfl
  (try simp only [Act.put, pA, pB, pC])
  refine tkm 7 (v := ?_) rfl ?_ ?_
  rotate_left 1
  ·intro w hSw
   try dsimp only at hSw
   go_simp
   try with_reducible rfl
  (try simp only [Act.put, pA, pB, pC])
  refine tkm 8 (v := ?_) rfl ?_ ?_
  rotate_left 1
  ·intro w hSw
   try dsimp only at hSw
   go_simp
   try with_reducible rfl
  (try simp only [Act.put, pA, pB, pC])
  refine tkm 9 (v := ?_) rfl ?_ ?_
  rotate_left 1
  ·intro w hSw
   try dsimp only at hSw
   go_simp
   try with_reducible rfl
  (try simp only [Act.put, pA, pB, pC])
  refine tkm 10 (v := ?_) rfl ?_ ?_
  rotate_left 1
  ·intro w hSw
   try dsimp only at hSw
   go_simp
   try with_reducible rfl
  (try simp only [Act.put, pA, pB, pC])
  refine tkm 11 (v := ?_) rfl ?_ ?_
  rotate_left 1
  ·intro w hSw
   try dsimp only at hSw
   go_simp
   try with_reducible rfl
  (try simp only [Act.put, pA, pB, pC])
  refine tkm 12 (v := ?_) rfl ?_ ?_
  rotate_left 1
  ·intro w hSw
   try dsimp only at hSw
   go_simp
   try with_reducible rfl
  (try simp only [Act.put, pA, pB, pC])
  refine tkm 13 (v := ?_) rfl ?_ ?_
  rotate_left 1
  ·intro w hSw
   try dsimp only at hSw
   go_simp
   try with_reducible rfl
  (try simp only [Act.put, pA, pB, pC])
  refine tkm 14 (v := ?_) rfl ?_ ?_
  rotate_left 1
  ·intro w hSw
   try dsimp only at hSw
   go_simp
   try with_reducible rfl
  (try simp only [Act.put, pA, pB, pC])
  refine take_unmet 15 (oi := ⟨_, _, _, _, _, _⟩) (by kernel_rfl) rfl (by rfl) (fun _ _ _ h => h) (by assumption) ?_
  (try simp only [Act.put, pA, pB, pC])
  refine take_unmet 16 (oi := ⟨_, _, _, _, _, _⟩) (by kernel_rfl) rfl (by rfl) (fun _ _ _ h => h) (by assumption) ?_
  (try simp only [Act.put, pA, pB, pC])
  refine take_unmet 17 (oi := ⟨_, _, _, _, _, _⟩) (by kernel_rfl) rfl (by rfl) (fun _ _ _ h => h) (by assumption) ?_
  (try simp only [Act.put, pA, pB, pC])
  refine take_unmet 18 (oi := ⟨_, _, _, _, _, _⟩) (by kernel_rfl) rfl (by rfl) (fun _ _ _ h => h) (by assumption) ?_
  (try simp only [Act.put, pA, pB, pC])
  refine take_unmet 19 (oi := ⟨_, _, _, _, _, _⟩) (by kernel_rfl) rfl (by rfl) (fun _ _ _ h => h) (by assumption) ?_
  (try simp only [Act.put, pA, pB, pC])
  refine take_unmet 20 (oi := ⟨_, _, _, _, _, _⟩) (by kernel_rfl) rfl (by rfl) (fun _ _ _ h => h) (by assumption) ?_
  (try simp only [Act.put, pA, pB, pC])
  refine take_unmet 21 (oi := ⟨_, _, _, _, _, _⟩) (by kernel_rfl) rfl (by rfl) (fun _ _ _ h => h) (by assumption) ?_
  (try simp only [Act.put, pA, pB, pC])
  refine take_unmet 22 (oi := ⟨_, _, _, _, _, _⟩) (by kernel_rfl) rfl (by rfl) (fun _ _ _ h => h) (by assumption) ?_
  (try simp only [Act.put, pA, pB, pC])
  refine take_unmet 23 (oi := ⟨_, _, _, _, _, _⟩) (by kernel_rfl) rfl (by rfl) (fun _ _ _ h => h) (by assumption) ?_
  (try simp only [Act.put, pA, pB, pC])
  refine take_unmet 24 (oi := ⟨_, _, _, _, _, _⟩) (by kernel_rfl) rfl (by rfl) (fun _ _ _ h => h) (by assumption) ?_
  (try simp only [Act.put, pA, pB, pC])
  refine take_unmet 25 (oi := ⟨_, _, _, _, _, _⟩) (by kernel_rfl) rfl (by rfl) (fun _ _ _ h => h) (by assumption) ?_
  (try simp only [Act.put, pA, pB, pC])
  refine take_unmet 26 (oi := ⟨_, _, _, _, _, _⟩) (by kernel_rfl) rfl (by rfl) (fun _ _ _ h => h) (by assumption) ?_
  (try simp only [Act.put, pA, pB, pC])
  refine tkm 27 (v := ?_) rfl ?_ ?_
  rotate_left 1
  ·intro w hSw
   try dsimp only at hSw
   go_simp
   try with_reducible rfl
  (try simp only [Act.put, pA, pB, pC])
  refine wpAnyH_done (by kernel_rfl) ?_ _
  go_wp2_with fail
  go_roundw
  case rel => exact ⟨s + 1, M4, by omega, by go_num, HQn, HI, hid (HL.out.of (by exact exP)), hid (HGt.out.trans (Grn.of_ext (by exact exP)))⟩
  case measure => simp [intOf]; omega
 rw [hwd] at hne
 have HWd := hid (show (y1, y2, y3) = (x2, x3, x4) from of_decide_eq_true hwd)
 clear hwd
 have HKp_ := hid (show ∀ w', Ext wr w' → (fun w' => (w'.cell? ⟨be, oe + k * 6, none⟩ = some (.int .i64 p) ∧ w'.cell? ⟨be, oe + k * 6 + 1, none⟩ = some (.int .i64 x2) ∧ w'.cell? ⟨be, oe + k * 6 + 2, none⟩ = some (.int .u32 x3) ∧ w'.cell? ⟨be, oe + k * 6 + 3, none⟩ = some (.int .u32 x4)) ∧ (w'.cell? ⟨g, p * 3, none⟩ = some (.int .i64 y1) ∧ w'.cell? ⟨g, p * 3 + 1, none⟩ = some (.int .u32 y2) ∧ w'.cell? ⟨g, p * 3 + 2, none⟩ = some (.int .u32 y3)) ∧ w'.cell? ⟨w.heap.size, 12, none⟩ = some (.slice (some ⟨bm, om, none⟩) sw.length sc) ∧ w'.cell? ⟨bm, om + s, none⟩ = some (.slice ia il.length ic)) w' from fun w' hE_ => ⟨⟨hE_.cell e0, hE_.cell e1, hE_.cell e2, hE_.cell e3⟩, ⟨hE_.cell m0, hE_.cell m1, hE_.cell m2⟩, hE_.cell c12, hE_.cell q0⟩)
 refine wp_region_held_drew (S := fun w' => (w'.cell? ⟨be, oe + k * 6, none⟩ = some (.int .i64 p) ∧ w'.cell? ⟨be, oe + k * 6 + 1, none⟩ = some (.int .i64 x2) ∧ w'.cell? ⟨be, oe + k * 6 + 2, none⟩ = some (.int .u32 x3) ∧ w'.cell? ⟨be, oe + k * 6 + 3, none⟩ = some (.int .u32 x4)) ∧ (w'.cell? ⟨g, p * 3, none⟩ = some (.int .i64 y1) ∧ w'.cell? ⟨g, p * 3 + 1, none⟩ = some (.int .u32 y2) ∧ w'.cell? ⟨g, p * 3 + 2, none⟩ = some (.int .u32 y3)) ∧ w'.cell? ⟨w.heap.size, 12, none⟩ = some (.slice (some ⟨bm, om, none⟩) sw.length sc) ∧ w'.cell? ⟨bm, om + s, none⟩ = some (.slice ia il.length ic)) (by kernel_rfl) (by exact HKp_.out _ (by exact exF)) (fun hHeld => ?_)
 refine tkm 0 (v := ?_) rfl ?_ ?_
 rotate_left 1
 ·intro w hSw
  try dsimp only at hSw
  go_simp
  try with_reducible rfl
 (try simp only [Act.put, pA, pB, pC])
 refine tkm 1 (v := ?_) rfl ?_ ?_
 rotate_left 1
 ·intro w hSw
  try dsimp only at hSw
  go_simp
  try with_reducible rfl
 (try simp only [Act.put, pA, pB, pC])
 refine tkm 2 (v := ?_) rfl ?_ ?_
 rotate_left 1
 ·intro w hSw
  try dsimp only at hSw
  go_simp
  try with_reducible rfl
 (try simp only [Act.put, pA, pB, pC])
 refine tkm 3 (v := ?_) rfl ?_ ?_
 rotate_left 1
 ·intro w hSw
  try dsimp only at hSw
  go_simp
  try with_reducible rfl
 (try simp only [Act.put, pA, pB, pC])
 refine tkm 4 (v := ?_) rfl ?_ ?_
 rotate_left 1
 ·intro w hSw
  try dsimp only at hSw
  go_simp
  try with_reducible rfl
 (try simp only [Act.put, pA, pB, pC])
 refine tkm 5 (v := ?_) rfl ?_ ?_
 rotate_left 1
 ·intro w hSw
  try dsimp only at hSw
  go_simp
  try with_reducible rfl
 (try simp only [Act.put, pA, pB, pC])
 refine tkm 6 (v := ?_) rfl ?_ ?_
 rotate_left 1
 ·intro w hSw
  try dsimp only at hSw
  go_simp
  try with_reducible rfl
 (try simp only [Act.put, pA, pB, pC])
 refine tkm 7 (v := ?_) rfl ?_ ?_
 rotate_left 1
 ·intro w hSw
  try dsimp only at hSw
  go_simp
  try with_reducible rfl
 (try simp only [Act.put, pA, pB, pC])
 refine tkm 8 (v := ?_) rfl ?_ ?_
 rotate_left 1
 ·intro w hSw
  try dsimp only at hSw
  go_simp
  try with_reducible rfl
 (try simp only [Act.put, pA, pB, pC])
 refine tkm 9 (v := ?_) rfl ?_ ?_
 rotate_left 1
 ·intro w hSw
  try dsimp only at hSw
  go_simp
  try with_reducible rfl
 (try simp only [Act.put, pA, pB, pC])
 refine tkm 10 (v := ?_) rfl ?_ ?_
 rotate_left 1
 ·intro w hSw
  try dsimp only at hSw
  go_simp
  try with_reducible rfl
 (try simp only [Act.put, pA, pB, pC])
 refine tkm 11 (v := ?_) rfl ?_ ?_
 rotate_left 1
 ·intro w hSw
  try dsimp only at hSw
  go_simp
  try with_reducible rfl
 (try simp only [Act.put, pA, pB, pC])
 refine tkm 12 (v := ?_) rfl ?_ ?_
 rotate_left 1
 ·intro w hSw
  try dsimp only at hSw
  go_simp
  try with_reducible rfl
 (try simp only [Act.put, pA, pB, pC])
 refine tkm 13 (v := ?_) rfl ?_ ?_
 rotate_left 1
 ·intro w hSw
  try dsimp only at hSw
  go_simp
  try with_reducible rfl
 (try simp only [Act.put, pA, pB, pC])
 refine tkm 14 (v := ?_) rfl ?_ ?_
 rotate_left 1
 ·intro w hSw
  try dsimp only at hSw
  go_simp
  try with_reducible rfl
 (try simp only [Act.put, pA, pB, pC])
 refine tkm 15 (v := ?_) rfl ?_ ?_
 rotate_left 1
 ·intro w hSw
  try dsimp only at hSw
  go_simp
  try with_reducible rfl
 (try simp only [Act.put, pA, pB, pC])
 refine tkm 16 (v := ?_) rfl ?_ ?_
 rotate_left 1
 ·intro w hSw
  try dsimp only at hSw
  go_simp
  try with_reducible rfl
 (try simp only [Act.put, pA, pB, pC])
 refine tkm 17 (v := ?_) rfl ?_ ?_
 rotate_left 1
 ·intro w hSw
  try dsimp only at hSw
  go_simp
  try with_reducible rfl
 (try simp only [Act.put, pA, pB, pC])
 refine tkm 18 (v := ?_) rfl ?_ ?_
 rotate_left 1
 ·intro w hSw
  try dsimp only at hSw
  go_simp
  try with_reducible rfl
 (try simp only [Act.put, pA, pB, pC])
 refine tkm 19 (v := ?_) rfl ?_ ?_
 rotate_left 1
 ·intro w hSw
  try dsimp only at hSw
  go_simp
  try with_reducible rfl
 (try simp only [Act.put, pA, pB, pC])
 refine tkm 20 (v := ?_) rfl ?_ ?_
 rotate_left 1
 ·intro w hSw
  try dsimp only at hSw
  go_simp
  try with_reducible rfl
 (try simp only [Act.put, pA, pB, pC])
 refine tkm 21 (v := ?_) rfl ?_ ?_
 rotate_left 1
 ·intro w hSw
  try dsimp only at hSw
  go_simp
  try with_reducible rfl
 (try simp only [Act.put, pA, pB, pC])
 refine tkm 22 (v := ?_) rfl ?_ ?_
 rotate_left 1
 ·intro w hSw
  try dsimp only at hSw
  go_simp
  try with_reducible rfl
 (try simp only [Act.put, pA, pB, pC])
 refine tkm 23 (v := ?_) rfl ?_ ?_
 rotate_left 1
 ·intro w hSw
  try dsimp only at hSw
  go_simp
  try with_reducible rfl
 (try simp only [Act.put, pA, pB, pC])
 refine tkm 24 (v := ?_) rfl ?_ ?_
 rotate_left 1
 ·intro w hSw
  try dsimp only at hSw
  go_simp
  try with_reducible rfl
 (try simp only [Act.put, pA, pB, pC])
 refine take_only 25 (oi := ⟨_, _, _, _, _, _⟩) (by kernel_rfl) rfl (fun K hK => ?_)
 go_simp
 first
  | (go_at_call 74; refine (asks20x_any il _ p HIo.out (by omega) _ (HS.out.of (HEw.out.trans (by exact exP))) (HIt.out.of itE_len (HEw.out.trans (by exact exP)))).mono ?_; rintro e w' ⟨⟨ab, rfl, HAb⟩, r10, rfl⟩)
 have hOld := hHeld
 clear hHeld
 refine hK.out _ _ (by exact HKp_.out _ (by exact exF)) (fun hHeld => ?_)
 clear hOld hK K
 (try simp only [Act.put, pA, pB, pC])
 refine tkm 26 (v := ?_) rfl ?_ ?_
 rotate_left 1
 ·intro w hSw
  try dsimp only at hSw
  go_simp
  try with_reducible rfl
 (try simp only [Act.put, pA, pB, pC])
 refine tkm 27 (v := ?_) rfl ?_ ?_
 rotate_left 1
 ·intro w hSw
  try dsimp only at hSw
  go_simp
  try with_reducible rfl
 (try simp only [Act.put, pA, pB, pC])
 refine wpAnyH_done (by kernel_rfl) ?_ _
 clear hHeld
 cases ab
 ·have HQn := hid (show sw20 [a0, a1, a2, a3, a4, a5] [b0, b1, b2, b3, b4, b5] (sw.drop (s + 1)) (s + 1) M4 = R by
   have h := HQ7.out
   rw [if_neg (by rintro ⟨_, h1⟩; rw [HAb.out] at h1; cases h1)] at h
   rw [← h]; exact HSt.out.symm)
  go_wp2_with fail
  go_roundw
  case rel => exact ⟨s + 1, M4, by omega, by go_num, HQn, HI, hid (HL.out.of (by exact exP)), hid (HGt.out.trans (Grn.of_ext (by exact exP)))⟩
  case measure => simp [intOf]; omega
 have HQ8 := hid (show heldFrom il (((s : Int) + 1) * 16777216 + 1) (M4.set p (y1, y2, ((s : Int) + 1) * 16777216 + 1)) (E.drop (k + 1)) = heldFrom il (((s : Int) + 1) * 16777216 + 1) (putD M (64 + s * 104) D) E by
  have h := HQ7.out
  rw [if_pos ⟨HWd.out, HAb.out⟩] at h
  have h1 := HWd.out
  rw [Prod.mk.injEq, Prod.mk.injEq] at h1
  rw [h1.1, h1.2.1]
  exact h.symm)
 generalize hZ : ext _ r10 = Z
 have HEZ0 := hid (show Ext wr Z by rw [← hZ]; exact exP)
 have HEZ := hid (HEw.out.trans HEZ0.out)
 have HLZ := hid (HL.out.of HEZ0.out)
 have HGZ := hid (HG.out.trans (Grn.of_ext HEZ0.out))
 have n0 := HEZ0.out.cell e0
 obtain ⟨m0', m1', m2'⟩ := Ws.cells HLZ.out HMy.out
 have f2' := Ws.free HLZ.out (p * 3 + 2)
 have hgZ : g < Z.heap.size := Nat.lt_of_lt_of_le hgw HEZ0.out.size
 have hbeZ : be < Z.heap.size := Nat.lt_of_lt_of_le hbe HEZ0.out.size
 clear hZ hne m0 m1 m2 f2 e0 e1 e2 e3 c12 c13 q0
 go_upto_region 25 with fail
 refine wp_region_held_drew (S := fun w' => w'.cell? ⟨be, oe + k * 6, none⟩ = some (.int .i64 p)) (by kernel_rfl) (by exact (show Grn g Z _ from by exact gnP).cell hbeg n0) (fun hHeld => ?_)
 refine tkm 0 (v := ?_) rfl ?_ ?_
 rotate_left 1
 ·intro w hSw
  try dsimp only at hSw
  go_simp
  try with_reducible rfl
 (try simp only [Act.put, pA, pB, pC])
 refine tkm 1 (v := ?_) rfl ?_ ?_
 rotate_left 1
 ·intro w hSw
  try dsimp only at hSw
  go_simp
  try with_reducible rfl
 (try simp only [Act.put, pA, pB, pC])
 refine tkm 2 (v := ?_) rfl ?_ ?_
 rotate_left 1
 ·intro w hSw
  try dsimp only at hSw
  go_simp
  try with_reducible rfl
 (try simp only [Act.put, pA, pB, pC])
 refine tkm 3 (v := ?_) rfl ?_ ?_
 rotate_left 1
 ·intro w hSw
  try dsimp only at hSw
  go_simp
  try with_reducible rfl
 (try simp only [Act.put, pA, pB, pC])
 refine tkm 4 (v := ?_) rfl ?_ ?_
 rotate_left 1
 ·intro w hSw
  try dsimp only at hSw
  go_simp
  try with_reducible rfl
 (try simp only [Act.put, pA, pB, pC])
 refine tkm 5 (v := ?_) rfl ?_ ?_
 rotate_left 1
 ·intro w hSw
  try dsimp only at hSw
  go_simp
  try with_reducible rfl
 (try simp only [Act.put, pA, pB, pC])
 refine tkm 6 (v := ?_) rfl ?_ ?_
 rotate_left 1
 ·intro w hSw
  try dsimp only at hSw
  go_simp
  try with_reducible rfl
 (try simp only [Act.put, pA, pB, pC])
 refine tkm 7 (v := ?_) rfl ?_ ?_
 rotate_left 1
 ·intro w hSw
  try dsimp only at hSw
  go_simp
  try with_reducible rfl
 (try simp only [Act.put, pA, pB, pC])
 refine take_only 8 (oi := ⟨_, _, _, _, _, _⟩) (by kernel_rfl) rfl (fun K hK => ?_)
 go_simp
 first
  | (go_at_call 54; refine (ref20_any s (by omega) _).mono ?_; rintro e w' ⟨rfl, r11, rfl⟩)
 have hOld := hHeld
 clear hHeld
 refine hK.out _ _ (by exact (show Grn g Z _ from by exact gnP).cell hbeg n0) (fun hHeld => ?_)
 clear hOld hK K
 (try simp only [Act.put, pA, pB, pC])
 refine tkm 9 (v := ?_) rfl ?_ ?_
 rotate_left 1
 ·intro w hSw
  try dsimp only at hSw
  go_simp
  try with_reducible rfl
 (try simp only [Act.put, pA, pB, pC])
 refine tkm 10 (v := ?_) rfl ?_ ?_
 rotate_left 1
 ·intro w hSw
  try dsimp only at hSw
  go_simp
  try with_reducible rfl
 (try simp only [Act.put, pA, pB, pC])
 refine take_only 11 (oi := ⟨_, _, _, _, _, _⟩) (by kernel_rfl) rfl (fun K hK => ?_)
 go_simp
 have hOld := hHeld
 clear hHeld
 refine hK.out _ _ (by exact (show Grn g Z _ from by exact gnP).cell hbeg n0) (fun hHeld => ?_)
 clear hOld hK K
 (try simp only [Act.put, pA, pB, pC])
 refine wpAnyH_done (by kernel_rfl) ?_ _
 go_wp2_with fail
 go_roundw
 case rel => exact ⟨k + 1, M4.set p (y1, y2, ((s : Int) + 1) * 16777216 + 1), by omega, by go_num, HQ8, hid (HI.out.set _ ⟨HYo.out.1, HYo.out.2.1, ⟨by dsimp only; omega, by dsimp only; omega⟩⟩), hid (Own.set wdE_len (HLZ.out.of (by exact exP)) HMy.out (y1, y2, ((s : Int) + 1) * 16777216 + 1) (j := 2) (by omega) (.int .u32 (((s : Int) + 1) * 16777216 + 1)) rfl rfl), hid ((HGZ.out.trans (Grn.of_ext (by exact exP))).setCell _ _)⟩
 case measure => simp [intOf]; omega
end
end Go.Proofs.YtiacdohaiidehaaGreatDoor
