/- Walks of law 20's asks and Entries. -/
import Derived.Test.YtiacdohaiidehaaGreatDoorPk47
namespace Go.Proofs.YtiacdohaiidehaaGreatDoor
set_option linter.unusedSimpArgs false
set_option linter.unusedVariables false
open Go.RowKit
def firstIt (l : List It) (i : Nat) : Option It := l.find? (fun x => decide (x.1 % 6 = (i : Int)))
theorem firstIt_some {l : List It} {i k : Nat} {x : It} (h : l[k]? = some x) (hx : x.1 % 6 = (i : Int)) (ha : (l.take k).all (fun x => !decide (x.1 % 6 = (i : Int))) = true) : firstIt l i = some x := by
 induction l generalizing k with
 | nil => simp at h
 | cons y ys ih =>
  cases k with
  | zero =>
   simp at h
   subst h
   unfold firstIt
   rw [List.find?_cons, decide_eq_true hx]
  | succ k =>
   simp only [List.take_succ_cons, List.all_cons, Bool.and_eq_true] at ha
   simp at h
   unfold firstIt
   rw [List.find?_cons]
   have : decide (y.1 % 6 = (i : Int)) = false := by simpa using ha.1
   rw [this]
   exact ih h ha.2
theorem firstIt_none {l : List It} {i : Nat} (ha : l.all (fun x => !decide (x.1 % 6 = (i : Int))) = true) : firstIt l i = none := by
 unfold firstIt
 rw [List.find?_eq_none]
 intro x hx
 have := List.all_eq_true.1 ha x hx
 simpa using this
def entC (va vb : List Int) (i : Nat) (x : It) : En := ⟨56 + i, va.getD i 0 + (if x.2.1 then 1 else 0), vb.getD i 0, 0, if x.2.2.1 then x.2.2.2.1 else va.getD i 0 + (if x.2.1 then 1 else 0), x.2.2.1⟩
def entsTo (va vb : List Int) (l : List It) (n : Nat) : List En := (List.range n).filterMap (fun i => (firstIt l i).map (entC va vb i))
theorem entsTo_yes {va vb : List Int} {l : List It} {n : Nat} {x : It} (h : firstIt l n = some x) : entsTo va vb l (n + 1) = entsTo va vb l n ++ [entC va vb n x] := by
 unfold entsTo; rw [List.range_succ, List.filterMap_append]; simp [h]
theorem entsTo_no {va vb : List Int} {l : List It} {n : Nat} (h : firstIt l n = none) : entsTo va vb l (n + 1) = entsTo va vb l n := by
 unfold entsTo; rw [List.range_succ, List.filterMap_append]; simp [h]
theorem entsTo_len (va vb : List Int) (l : List It) (n : Nat) : (entsTo va vb l n).length ≤ n := by
 induction n with
 | zero => simp [entsTo]
 | succ n ih =>
  cases h : firstIt l n with
  | none => rw [entsTo_no h]; omega
  | some x => rw [entsTo_yes h, List.length_append]; simp; omega
theorem entsTo_mem {va vb : List Int} {l : List It} {n : Nat} {e : En} (h : e ∈ entsTo va vb l n) : ∃ i x, i < n ∧ x ∈ l ∧ e = entC va vb i x := by
 unfold entsTo at h
 rw [List.mem_filterMap] at h
 obtain ⟨i, hi, hx⟩ := h
 rw [List.mem_range] at hi
 cases hf : firstIt l i with
 | none => rw [hf] at hx; cases hx
 | some x =>
  rw [hf] at hx
  simp only [Option.map_some, Option.some.injEq] at hx
  exact ⟨i, x, hi, List.mem_of_find?_eq_some hf, hx.symm⟩
theorem getD_bd {l : List Int} {a b : Int} (h : ∀ x ∈ l, a ≤ x ∧ x ≤ b) (h0 : a ≤ 0 ∧ 0 ≤ b) (i : Nat) : a ≤ l.getD i 0 ∧ l.getD i 0 ≤ b := by
 rw [List.getD_eq_getElem?_getD]
 cases hi : l[i]? with
 | none => exact h0
 | some x => exact h x (List.mem_of_getElem? hi)
theorem entsTo_ok {va vb : List Int} {l : List It} {n : Nat} (hn : n ≤ 6) (hva : ∀ a ∈ va, -128 ≤ a ∧ a ≤ 127) (hvb : ∀ a ∈ vb, 0 ≤ a ∧ a ≤ 255) (hl : ∀ a ∈ l, ItOk a) : ∀ e ∈ entsTo va vb l n, EnOk e ∧ 56 ≤ e.loc ∧ e.loc ≤ 61 := by
 intro e he
 obtain ⟨i, x, hi, hx, rfl⟩ := entsTo_mem he
 have h1 := getD_bd hva (by omega) i
 have h2 := getD_bd hvb (by omega) i
 have h3 := (hl x hx).2
 have h4 : (0 : Int) ≤ (if x.2.1 = true then 1 else 0) ∧ (if x.2.1 = true then (1 : Int) else 0) ≤ 1 := by split <;> omega
 unfold entC
 refine ⟨⟨?_, ?_, ?_, ?_, ?_, ?_, ?_, ?_, ?_, ?_⟩, ?_, ?_⟩ <;> dsimp only <;> (try split) <;> omega
theorem mod6 {x : Int} (h0 : 0 ≤ x) : ∃ q : Nat, q < 6 ∧ x % 6 = (q : Int) ∧ x.tmod 6 = (q : Int) ∧ IntKind.i64.wrap (q : Int) = (q : Int) := by
 obtain ⟨q, hq⟩ := Int.eq_ofNat_of_zero_le (Int.emod_nonneg x (show (6 : Int) ≠ 0 by omega))
 have hq3 : q < 6 := by have := Int.emod_lt_of_pos x (show (0 : Int) < 6 by omega); omega
 exact ⟨q, hq3, hq, by rw [Int.tmod_eq_emod_of_nonneg h0]; exact hq, IntWalk.i64_in _ (by omega)⟩
def BlPost (w : World) (y : Ending) (w' : World) : Prop := (∃ b, y = .returned (.bool b)) ∧ ∃ r, w' = ext w r
section
variable (a0 a1 a2 a3 a4 a5 b0 b1 b2 b3 b4 b5 : Int)
set_option maxRecDepth 100000 in
set_option maxHeartbeats 8000000 in
theorem ents20_any (hva : ∀ a ∈ [a0, a1, a2, a3, a4, a5], -128 ≤ a ∧ a ≤ 127) (hvb : ∀ a ∈ [b0, b1, b2, b3, b4, b5], 0 ≤ a ∧ a ≤ 255) (sa : Option Addr) (sn sc : Nat) (l : List It) (v : Value) (hok : ∀ a ∈ l, ItOk a) (hll : l.length ≤ 100000) (w : World) (hs : Szs w) (hv : Sl w 5 itE v l) :
 Calls Tryz.prog 72 #[.agg #[.int .i8 a0, .int .i8 a1, .int .i8 a2, .int .i8 a3, .int .i8 a4, .int .i8 a5, .int .u8 b0, .int .u8 b1, .int .u8 b2, .int .u8 b3, .int .u8 b4, .int .u8 b5, .slice sa sn sc], v] w fun y w' => ∃ v', y = .returned v' ∧ (∃ r, w' = ext w r) ∧ Own w' w.heap.size 120 6 enE v' (entsTo [a0, a1, a2, a3, a4, a5] [b0, b1, b2, b3, b4, b5] l 6) := by
 have HS := hid hs
 have HV := hid hv
 have HO := hid hok
 have HA := hid hva
 have HB := hid hvb
 obtain ⟨a, c, rfl, hm, hq⟩ := hv
 clear hm hq hs hok hva hvb
 go_enter Tryz.func72, Tryz.ntmps72
 go_wp2_with fail
 generalize hU : World.alloc _ _ = U
 have HEU := hid (show Ext w U by rw [← hU]; exact exP)
 have HBk := hid (show Blk U w.heap.size [.int .i8 a0, .int .i8 a1, .int .i8 a2, .int .i8 a3, .int .i8 a4, .int .i8 a5, .int .u8 b0, .int .u8 b1, .int .u8 b2, .int .u8 b3, .int .u8 b4, .int .u8 b5, .slice sa sn sc] by rw [← hU]; exact bkP)
 clear hU
 go_loopw [5, 6] (fun o i wr => ∃ j : Nat, j ≤ 6 ∧ i = .int .i64 j ∧ Hid (Own wr U.heap.size 120 6 enE o (entsTo [a0, a1, a2, a3, a4, a5] [b0, b1, b2, b3, b4, b5] l j)) ∧ Hid (Ext U wr)) (fun _ i _ => 6 - (intOf i).toNat)
 case atStart => exact ⟨0, by omega, rfl, hid Own.nil, hid (Ext.refl _)⟩
 case round =>
 obtain ⟨i, hi, rfl, HOw, HX⟩ := hrel
 have HXw := hid (HEU.out.trans HX.out)
 by_cases hi6 : i < 6
 rotate_left
 ·have hii : ¬ (i : Int) < 6 := by omega
  obtain rfl : i = 6 := by omega
  go_wp2_with fail
  go_ret
  exact ⟨_, rfl, HXw.out, Own.mono HOw.out HEU.out.size⟩
 have hii : (i : Int) < 6 := by omega
 have hEl := entsTo_len [a0, a1, a2, a3, a4, a5] [b0, b1, b2, b3, b4, b5] l i
 obtain ⟨E, hE⟩ : ∃ E, E = entsTo [a0, a1, a2, a3, a4, a5] [b0, b1, b2, b3, b4, b5] l i := ⟨_, rfl⟩
 rw [← hE] at HOw hEl
 have HE := hid hE
 obtain ⟨oa, oc, rfl⟩ := Own.shape HOw.out
 have HEl := hid hEl
 obtain ⟨u, hu⟩ : ∃ u, [a0, a1, a2, a3, a4, a5][i]? = some u := ⟨_, List.getElem?_eq_getElem (by show i < 6; exact hi6)⟩
 obtain ⟨t, ht⟩ : ∃ u, [b0, b1, b2, b3, b4, b5][i]? = some u := ⟨_, List.getElem?_eq_getElem (by show i < 6; exact hi6)⟩
 have hub := HA.out u (List.mem_of_getElem? hu)
 have htb := HB.out t (List.mem_of_getElem? ht)
 have HU := hid hu
 have HT := hid ht
 have HCl := hid (cell31 i (by omega))
 have hus := HX.out.size
 clear hE hEl hu ht
 go_wp2_with fail
 go_loopw [5, 7] (fun o k wk => ∃ j : Nat, j ≤ l.length ∧ k = .int .i64 j ∧ o = .slice oa E.length oc ∧ Hid ((l.take j).all (fun x => !decide (x.1 % 6 = (i : Int))) = true) ∧ wk = wr) (fun _ k _ => l.length - (intOf k).toNat)
 case atStart => exact ⟨0, by omega, rfl, rfl, hid rfl, rfl⟩
 case round =>
 obtain ⟨j, hj, rfl, rfl, HAl, rfl⟩ := hrel
 by_cases hjl : j < l.length
 rotate_left
 ·have hd : decide (j < l.length) = false := decide_eq_false hjl
  obtain rfl : j = l.length := by omega
  have HN := hid (entsTo_no (va := [a0, a1, a2, a3, a4, a5]) (vb := [b0, b1, b2, b3, b4, b5]) (firstIt_none (by have := HAl.out; rw [List.take_length] at this; exact this)))
  go_wp2_with fail
  go_roundw
  case rel => exact ⟨i + 1, by omega, by go_num, hid (by rw [HN.out, ← HE.out]; exact HOw.out), HX⟩
  case measure => simp [intOf]; omega
 have hd : decide (j < l.length) = true := decide_eq_true hjl
 have hji : (j : Int) < (l.length : Int) := by omega
 obtain ⟨⟨x1, x2, x3, x4, x5⟩, hx⟩ : ∃ x, l[j]? = some x := ⟨_, List.getElem?_eq_getElem hjl⟩
 have HXx := hid hx
 have hxo := HO.out _ (List.mem_of_getElem? hx)
 obtain ⟨hx0, hx1⟩ := hxo
 dsimp only at hx0 hx1
 obtain ⟨_, bm, om, hab, hbm, hcm⟩ := Sl.at (HV.out.of itE_len HXw.out) hx
 subst hab
 have k0 := hcm 0 (by omega)
 have k1 := hcm 1 (by omega)
 have k2 := hcm 2 (by omega)
 have k3 := hcm 3 (by omega)
 simp [itE] at k0 k1 k2 k3
 obtain ⟨q, hq6, hqe, htm, hwq⟩ := mod6 hx0.1
 clear hx hcm
 by_cases hqi : q = i
 rotate_left
 ·have hb : ((q : Int) != (i : Int)) = true := by simp; omega
  have HN := hid (show (l.take (j + 1)).all (fun x => !decide (x.1 % 6 = (i : Int))) = true by
   obtain ⟨h1, h2⟩ := List.getElem?_eq_some_iff.1 HXx.out
   rw [List.take_succ_eq_append_getElem h1, h2, List.all_append, HAl.out]
   simp [hqe]; omega)
  clear hqi
  go_wp2_with fail
  go_roundw
  case rel => exact ⟨j + 1, by omega, by go_num, rfl, HN, by first | trivial | rfl⟩
  case measure => simp [intOf]; omega
 subst hqi
 have hb : ((q : Int) != (q : Int)) = false := by simp
 have HY := hid (entsTo_yes (va := [a0, a1, a2, a3, a4, a5]) (vb := [b0, b1, b2, b3, b4, b5]) (firstIt_some HXx.out hqe HAl.out))
 have hen : entC [a0, a1, a2, a3, a4, a5] [b0, b1, b2, b3, b4, b5] q (x1, x2, x3, x4, x5) = ⟨56 + q, u + (if x2 = true then 1 else 0), t, 0, if x3 = true then x4 else u + (if x2 = true then 1 else 0), x3⟩ := by
  unfold entC
  rw [List.getD_eq_getElem?_getD, HU.out, List.getD_eq_getElem?_getD, HT.out]
  rfl
 rw [hen, ← HE.out] at HY
 have hw1 : IntKind.i64.wrap (u + 1) = u + 1 := IntWalk.i64_in _ (by omega)
 have hw4 : IntKind.i64.wrap x4 = x4 := IntWalk.i64_in _ (by omega)
 have c0 := (HBk.out.of HX.out).2.2 0 _ rfl
 have c1 := (HBk.out.of HX.out).2.2 1 _ rfl
 have c2 := (HBk.out.of HX.out).2.2 2 _ rfl
 have c3 := (HBk.out.of HX.out).2.2 3 _ rfl
 have c4 := (HBk.out.of HX.out).2.2 4 _ rfl
 have c5 := (HBk.out.of HX.out).2.2 5 _ rfl
 have c6 := (HBk.out.of HX.out).2.2 6 _ rfl
 have c7 := (HBk.out.of HX.out).2.2 7 _ rfl
 have c8 := (HBk.out.of HX.out).2.2 8 _ rfl
 have c9 := (HBk.out.of HX.out).2.2 9 _ rfl
 have c10 := (HBk.out.of HX.out).2.2 10 _ rfl
 have c11 := (HBk.out.of HX.out).2.2 11 _ rfl
 have c12 := (HBk.out.of HX.out).2.2 12 _ rfl
 clear hen
 go_upto_region 9 with fail
 go_cut [8] (fun s8 wx => ∃ g : Nat, s8 = .pointer (some ⟨g, 0, none⟩) ∧ Blk wx g [.int .i64 (56 + q), .int .i64 u, .int .u32 t, .int .u32 0, .int .i64 0, .bool x3] ∧ Ext wr wx ∧ wr.heap.size ≤ g)
 case first =>
  have HKp_ := hid (show ∀ w', Ext wr w' → (fun w' => ((w'.cell? ⟨w.heap.size, 0, none⟩ = some (.int .i8 a0) ∧ w'.cell? ⟨w.heap.size, 1, none⟩ = some (.int .i8 a1) ∧ w'.cell? ⟨w.heap.size, 2, none⟩ = some (.int .i8 a2) ∧ w'.cell? ⟨w.heap.size, 3, none⟩ = some (.int .i8 a3) ∧ w'.cell? ⟨w.heap.size, 4, none⟩ = some (.int .i8 a4) ∧ w'.cell? ⟨w.heap.size, 5, none⟩ = some (.int .i8 a5)) ∧ (w'.cell? ⟨w.heap.size, 6, none⟩ = some (.int .u8 b0) ∧ w'.cell? ⟨w.heap.size, 7, none⟩ = some (.int .u8 b1) ∧ w'.cell? ⟨w.heap.size, 8, none⟩ = some (.int .u8 b2) ∧ w'.cell? ⟨w.heap.size, 9, none⟩ = some (.int .u8 b3) ∧ w'.cell? ⟨w.heap.size, 10, none⟩ = some (.int .u8 b4) ∧ w'.cell? ⟨w.heap.size, 11, none⟩ = some (.int .u8 b5)) ∧ w'.cell? ⟨w.heap.size, 12, none⟩ = some (.slice sa sn sc)) ∧ w'.cell? ⟨bm, om + j * 5 + 2, none⟩ = some (.bool x3)) w' from fun w' hE_ => ⟨⟨⟨hE_.cell c0, hE_.cell c1, hE_.cell c2, hE_.cell c3, hE_.cell c4, hE_.cell c5⟩, ⟨hE_.cell c6, hE_.cell c7, hE_.cell c8, hE_.cell c9, hE_.cell c10, hE_.cell c11⟩, hE_.cell c12⟩, hE_.cell k2⟩)
  refine wp_region_held_drew (S := fun w' => ((w'.cell? ⟨w.heap.size, 0, none⟩ = some (.int .i8 a0) ∧ w'.cell? ⟨w.heap.size, 1, none⟩ = some (.int .i8 a1) ∧ w'.cell? ⟨w.heap.size, 2, none⟩ = some (.int .i8 a2) ∧ w'.cell? ⟨w.heap.size, 3, none⟩ = some (.int .i8 a3) ∧ w'.cell? ⟨w.heap.size, 4, none⟩ = some (.int .i8 a4) ∧ w'.cell? ⟨w.heap.size, 5, none⟩ = some (.int .i8 a5)) ∧ (w'.cell? ⟨w.heap.size, 6, none⟩ = some (.int .u8 b0) ∧ w'.cell? ⟨w.heap.size, 7, none⟩ = some (.int .u8 b1) ∧ w'.cell? ⟨w.heap.size, 8, none⟩ = some (.int .u8 b2) ∧ w'.cell? ⟨w.heap.size, 9, none⟩ = some (.int .u8 b3) ∧ w'.cell? ⟨w.heap.size, 10, none⟩ = some (.int .u8 b4) ∧ w'.cell? ⟨w.heap.size, 11, none⟩ = some (.int .u8 b5)) ∧ w'.cell? ⟨w.heap.size, 12, none⟩ = some (.slice sa sn sc)) ∧ w'.cell? ⟨bm, om + j * 5 + 2, none⟩ = some (.bool x3)) (by kernel_rfl) (by exact HKp_.out _ (by exact exF)) (fun hHeld => ?_)
  refine tkm 1 (v := ?_) rfl ?_ ?_
  rotate_left 1
  ·intro w hSw
   try dsimp only at hSw
   go_simp
   try with_reducible rfl
  (try simp only [Act.put, pA, pB, pC])
  refine tkm 3 (v := ?_) rfl ?_ ?_
  rotate_left 1
  ·intro w hSw
   try dsimp only at hSw
   go_simp
   try with_reducible rfl
  (try simp only [Act.put, pA, pB, pC])
  refine tkm 4 (v := ?_) rfl ?_ ?_
  rotate_left 1
  ·intro w hSw
   try dsimp only at hSw
   go_simp
   try with_reducible rfl
  (try simp only [Act.put, pA, pB, pC])
  refine tkm 6 (v := ?_) rfl ?_ ?_
  rotate_left 1
  ·intro w hSw
   try dsimp only at hSw
   go_simp
   try with_reducible rfl
  (try simp only [Act.put, pA, pB, pC])
  refine tkm 7 (v := ?_) rfl ?_ ?_
  rotate_left 1
  ·intro w hSw
   try dsimp only at hSw
   go_simp
   try with_reducible rfl
  (try simp only [Act.put, pA, pB, pC])
  refine tkm 8 (v := ?_) rfl ?_ ?_
  rotate_left 1
  ·intro w hSw
   try dsimp only at hSw
   go_simp
   try with_reducible rfl
  (try simp only [Act.put, pA, pB, pC])
  refine tkm 9 (v := ?_) rfl ?_ ?_
  rotate_left 1
  ·intro w hSw
   try dsimp only at hSw
   go_simp
   try with_reducible rfl
  (try simp only [Act.put, pA, pB, pC])
  refine tkm 10 (v := ?_) rfl ?_ ?_
  rotate_left 1
  ·intro w hSw
   try dsimp only at hSw
   go_simp
   try with_reducible rfl
  (try simp only [Act.put, pA, pB, pC])
  refine wpAnyH_ready (rs := [0, 12]) (by kernel_rfl) (by simp) ?_
  refine AllReadyH.cons (o := ⟨_, _, _, _, _, _⟩) rfl (fun K hK => ?_) ?_
  ·
   go_simp
   first
    | (go_at_call 7; refine (plan20_any _).mono ?_; rintro e w' ⟨rfl, r1, rfl⟩)
   have hOld := hHeld
   clear hHeld
   refine hK.out _ _ (by exact HKp_.out _ (by exact exF)) (fun hHeld => ?_)
   clear hOld hK K
   (try simp only [Act.put, pA, pB, pC])
   refine wpAnyH_ready (rs := [2, 12]) (by kernel_rfl) (by simp) ?_
   refine AllReadyH.cons (o := ⟨_, _, _, _, _, _⟩) rfl (fun K hK => ?_) ?_
   ·
    go_simp
    first
     | (go_at_call 24; refine (cell_any 3 8 1 q _ (HS.out.of (HXw.out.trans (by exact exP)))).mono ?_; rintro e w' ⟨rfl, r2, rfl⟩; rw [HCl.out])
    have hOld := hHeld
    clear hHeld
    refine hK.out _ _ (by exact HKp_.out _ (by exact exF)) (fun hHeld => ?_)
    clear hOld hK K
    (try simp only [Act.put, pA, pB, pC])
    refine wpAnyH_ready (rs := [5, 12]) (by kernel_rfl) (by simp) ?_
    refine AllReadyH.cons (o := ⟨_, _, _, _, _, _⟩) rfl (fun K hK => ?_) ?_
    ·
     go_simp
     first
      | (go_at_call 71; refine (cell20_any a0 a1 a2 a3 a4 a5 b0 b1 b2 b3 b4 b5 _ sa sn sc rfl q hq6 u t HU.out HT.out hub htb _).mono ?_; rintro e w' ⟨rfl, r3, rfl⟩)
     have hOld := hHeld
     clear hHeld
     refine hK.out _ _ (by exact HKp_.out _ (by exact exF)) (fun hHeld => ?_)
     clear hOld hK K
     (try simp only [Act.put, pA, pB, pC])
     refine tkm 11 (v := ?_) rfl ?_ ?_
     rotate_left 1
     ·intro w hSw
      try dsimp only at hSw
      go_simp
      try with_reducible rfl
     (try simp only [Act.put, pA, pB, pC])
     refine take_only 12 (oi := ⟨_, _, _, _, _, _⟩) (by kernel_rfl) rfl (fun K hK => ?_)
     go_simp
     have hOld := hHeld
     clear hHeld
     refine hK.out _ _ (by exact HKp_.out _ (by exact exF)) (fun hHeld => ?_)
     clear hOld hK K
     (try simp only [Act.put, pA, pB, pC])
     refine take_only 13 (oi := ⟨_, _, _, _, _, _⟩) (by kernel_rfl) rfl (fun K hK => ?_)
     go_simp
     have hOld := hHeld
     clear hHeld
     refine hK.out _ _ (by exact HKp_.out _ (by exact exF)) (fun hHeld => ?_)
     clear hOld hK K
     (try simp only [Act.put, pA, pB, pC])
     refine wpAnyH_done (by kernel_rfl) ?_ _
     go_wp2_with fail
     go_meet
     exact ⟨_, rfl, by (show Blk _ _ _; repeat first | (with_reducible first | (refine xH ?_; assumption) | apply bD | apply bX) | ((with_reducible refine bN _ _ rfl ?_); first | with_reducible rfl | focus (simp; done)) | ((with_reducible apply bE); first | with_reducible rfl | focus (simp; done)) | (with_reducible first | apply bA | assumption | apply bS) | ((with_reducible refine bO ?_ ?_); first | omega | (simp; omega)) | (show List.set _ _ _ = _; exact rfl) | focus (show _ < List.length _; simp; done)), by exact exF, by omega⟩
    refine AllReadyH.cons (o := ⟨_, _, _, _, _, _⟩) rfl (fun K hK => ?_) AllReadyH.nil
    go_simp
    have hOld := hHeld
    clear hHeld
    refine hK.out _ _ (by exact HKp_.out _ (by exact exF)) (fun hHeld => ?_)
    clear hOld hK K
    (try simp only [Act.put, pA, pB, pC])
    refine take_only 5 (oi := ⟨_, _, _, _, _, _⟩) (by kernel_rfl) rfl (fun K hK => ?_)
    go_simp
    first
     | (go_at_call 71; refine (cell20_any a0 a1 a2 a3 a4 a5 b0 b1 b2 b3 b4 b5 _ sa sn sc rfl q hq6 u t HU.out HT.out hub htb _).mono ?_; rintro e w' ⟨rfl, r3, rfl⟩)
    have hOld := hHeld
    clear hHeld
    refine hK.out _ _ (by exact HKp_.out _ (by exact exF)) (fun hHeld => ?_)
    clear hOld hK K
    (try simp only [Act.put, pA, pB, pC])
    refine tkm 11 (v := ?_) rfl ?_ ?_
    rotate_left 1
    ·intro w hSw
     try dsimp only at hSw
     go_simp
     try with_reducible rfl
    (try simp only [Act.put, pA, pB, pC])
    refine take_only 13 (oi := ⟨_, _, _, _, _, _⟩) (by kernel_rfl) rfl (fun K hK => ?_)
    go_simp
    have hOld := hHeld
    clear hHeld
    refine hK.out _ _ (by exact HKp_.out _ (by exact exF)) (fun hHeld => ?_)
    clear hOld hK K
    (try simp only [Act.put, pA, pB, pC])
    refine wpAnyH_done (by kernel_rfl) ?_ _
    go_wp2_with fail
    go_meet
    exact ⟨_, rfl, by (show Blk _ _ _; repeat first | (with_reducible first | (refine xH ?_; assumption) | apply bD | apply bX) | ((with_reducible refine bN _ _ rfl ?_); first | with_reducible rfl | focus (simp; done)) | ((with_reducible apply bE); first | with_reducible rfl | focus (simp; done)) | (with_reducible first | apply bA | assumption | apply bS) | ((with_reducible refine bO ?_ ?_); first | omega | (simp; omega)) | (show List.set _ _ _ = _; exact rfl) | focus (show _ < List.length _; simp; done)), by exact exF, by omega⟩
   refine AllReadyH.cons (o := ⟨_, _, _, _, _, _⟩) rfl (fun K hK => ?_) AllReadyH.nil
   go_simp
   have hOld := hHeld
   clear hHeld
   refine hK.out _ _ (by exact HKp_.out _ (by exact exF)) (fun hHeld => ?_)
   clear hOld hK K
   (try simp only [Act.put, pA, pB, pC])
   refine take_only 2 (oi := ⟨_, _, _, _, _, _⟩) (by kernel_rfl) rfl (fun K hK => ?_)
   go_simp
   first
    | (go_at_call 24; refine (cell_any 3 8 1 q _ (HS.out.of (HXw.out.trans (by exact exP)))).mono ?_; rintro e w' ⟨rfl, r2, rfl⟩; rw [HCl.out])
   have hOld := hHeld
   clear hHeld
   refine hK.out _ _ (by exact HKp_.out _ (by exact exF)) (fun hHeld => ?_)
   clear hOld hK K
   (try simp only [Act.put, pA, pB, pC])
   refine take_only 5 (oi := ⟨_, _, _, _, _, _⟩) (by kernel_rfl) rfl (fun K hK => ?_)
   go_simp
   first
    | (go_at_call 71; refine (cell20_any a0 a1 a2 a3 a4 a5 b0 b1 b2 b3 b4 b5 _ sa sn sc rfl q hq6 u t HU.out HT.out hub htb _).mono ?_; rintro e w' ⟨rfl, r3, rfl⟩)
   have hOld := hHeld
   clear hHeld
   refine hK.out _ _ (by exact HKp_.out _ (by exact exF)) (fun hHeld => ?_)
   clear hOld hK K
   (try simp only [Act.put, pA, pB, pC])
   refine tkm 11 (v := ?_) rfl ?_ ?_
   rotate_left 1
   ·intro w hSw
    try dsimp only at hSw
    go_simp
    try with_reducible rfl
   (try simp only [Act.put, pA, pB, pC])
   refine take_only 13 (oi := ⟨_, _, _, _, _, _⟩) (by kernel_rfl) rfl (fun K hK => ?_)
   go_simp
   have hOld := hHeld
   clear hHeld
   refine hK.out _ _ (by exact HKp_.out _ (by exact exF)) (fun hHeld => ?_)
   clear hOld hK K
   (try simp only [Act.put, pA, pB, pC])
   refine wpAnyH_done (by kernel_rfl) ?_ _
   go_wp2_with fail
   go_meet
   exact ⟨_, rfl, by (show Blk _ _ _; repeat first | (with_reducible first | (refine xH ?_; assumption) | apply bD | apply bX) | ((with_reducible refine bN _ _ rfl ?_); first | with_reducible rfl | focus (simp; done)) | ((with_reducible apply bE); first | with_reducible rfl | focus (simp; done)) | (with_reducible first | apply bA | assumption | apply bS) | ((with_reducible refine bO ?_ ?_); first | omega | (simp; omega)) | (show List.set _ _ _ = _; exact rfl) | focus (show _ < List.length _; simp; done)), by exact exF, by omega⟩
  refine AllReadyH.cons (o := ⟨_, _, _, _, _, _⟩) rfl (fun K hK => ?_) AllReadyH.nil
  go_simp
  have hOld := hHeld
  clear hHeld
  refine hK.out _ _ (by exact HKp_.out _ (by exact exF)) (fun hHeld => ?_)
  clear hOld hK K
  (try simp only [Act.put, pA, pB, pC])
  refine take_only 0 (oi := ⟨_, _, _, _, _, _⟩) (by kernel_rfl) rfl (fun K hK => ?_)
  go_simp
  first
   | (go_at_call 7; refine (plan20_any _).mono ?_; rintro e w' ⟨rfl, r1, rfl⟩)
  have hOld := hHeld
  clear hHeld
  refine hK.out _ _ (by exact HKp_.out _ (by exact exF)) (fun hHeld => ?_)
  clear hOld hK K
  (try simp only [Act.put, pA, pB, pC])
  refine take_only 2 (oi := ⟨_, _, _, _, _, _⟩) (by kernel_rfl) rfl (fun K hK => ?_)
  go_simp
  first
   | (go_at_call 24; refine (cell_any 3 8 1 q _ (HS.out.of (HXw.out.trans (by exact exP)))).mono ?_; rintro e w' ⟨rfl, r2, rfl⟩; rw [HCl.out])
  have hOld := hHeld
  clear hHeld
  refine hK.out _ _ (by exact HKp_.out _ (by exact exF)) (fun hHeld => ?_)
  clear hOld hK K
  (try simp only [Act.put, pA, pB, pC])
  refine take_only 5 (oi := ⟨_, _, _, _, _, _⟩) (by kernel_rfl) rfl (fun K hK => ?_)
  go_simp
  first
   | (go_at_call 71; refine (cell20_any a0 a1 a2 a3 a4 a5 b0 b1 b2 b3 b4 b5 _ sa sn sc rfl q hq6 u t HU.out HT.out hub htb _).mono ?_; rintro e w' ⟨rfl, r3, rfl⟩)
  have hOld := hHeld
  clear hHeld
  refine hK.out _ _ (by exact HKp_.out _ (by exact exF)) (fun hHeld => ?_)
  clear hOld hK K
  (try simp only [Act.put, pA, pB, pC])
  refine tkm 11 (v := ?_) rfl ?_ ?_
  rotate_left 1
  ·intro w hSw
   try dsimp only at hSw
   go_simp
   try with_reducible rfl
  (try simp only [Act.put, pA, pB, pC])
  refine take_only 13 (oi := ⟨_, _, _, _, _, _⟩) (by kernel_rfl) rfl (fun K hK => ?_)
  go_simp
  have hOld := hHeld
  clear hHeld
  refine hK.out _ _ (by exact HKp_.out _ (by exact exF)) (fun hHeld => ?_)
  clear hOld hK K
  (try simp only [Act.put, pA, pB, pC])
  refine wpAnyH_done (by kernel_rfl) ?_ _
  go_wp2_with fail
  go_meet
  exact ⟨_, rfl, by (show Blk _ _ _; repeat first | (with_reducible first | (refine xH ?_; assumption) | apply bD | apply bX) | ((with_reducible refine bN _ _ rfl ?_); first | with_reducible rfl | focus (simp; done)) | ((with_reducible apply bE); first | with_reducible rfl | focus (simp; done)) | (with_reducible first | apply bA | assumption | apply bS) | ((with_reducible refine bO ?_ ?_); first | omega | (simp; omega)) | (show List.set _ _ _ = _; exact rfl) | focus (show _ < List.length _; simp; done)), by exact exF, by omega⟩
 case rest =>
 obtain ⟨g8, rfl, hb8, hxw, hg8⟩ := hcut
 obtain ⟨W8, rfl⟩ : ∃ W : World, W = wc := ⟨_, rfl⟩
 have HB8 := hid hb8
 have HX8 := hid hxw
 have p1 := hxw.cell k1
 have p3 := hxw.cell k3
 have HK3 := hid k3
 have e0 := hb8.2.2 0 _ rfl
 have e1 := hb8.2.2 1 _ rfl
 have e2 := hb8.2.2 2 _ rfl
 have e3 := hb8.2.2 3 _ rfl
 have e4 := hb8.2.2 4 _ rfl
 have e5 := hb8.2.2 5 _ rfl
 have z1 := hb8.2.1 1
 have z4 := hb8.2.1 4
 have z5 := hb8.1
 have hbm2 : bm < W8.heap.size := Nat.lt_of_lt_of_le hbm hxw.size
 have hbg : bm ≠ g8 := by omega
 have hUX := (HX.out.trans hxw).size
 have hUg : U.heap.size ≤ g8 := by omega
 have HOx := hid (HOw.out.of_ext hxw)
 clear hb8 hxw c0 c1 c2 c3 c4 c5 c6 c7 c8 c9 c10 c11 c12 k0 k1 k2 k3
 have HXX := hid (HX.out.trans HX8.out)
 clear HOx
 cases x2 <;> cases x3
 ·have HY2 := hid (show entsTo [a0, a1, a2, a3, a4, a5] [b0, b1, b2, b3, b4, b5] l (q + 1) = E ++ [⟨56 + q, u, t, 0, u, false⟩] by have h := HY.out; simpa using h)
  clear HY
  go_wp2_with (at_builtin; refine es_append_b rfl _ _ rfl U (HX.out.trans (show Ext wr _ by exact exF)) (Nat.le_refl _) (by (first | exact Nat.le_refl _ | (simp; done) | (simp; omega))) rfl (Own.of_ext HOw.out (show Ext wr _ by exact exF)) _ 1 1 rfl [⟨56 + q, u, t, 0, u, false⟩] rfl (news_new rfl _ (by (first | rfl | (simp; done)))) (by have := HEl.out; omega) ?_; rintro v9 w9 hv9 hX9 hB9; have HV9 := hid hv9; have HX9 := hid hX9; clear hv9 hX9 hB9)
  go_roundw
  case rel => exact ⟨q + 1, by omega, by go_num, hid (by rw [HY2.out]; exact HV9.out), HX9⟩
  case measure => simp [intOf]; omega
 ·have HY2 := hid (show entsTo [a0, a1, a2, a3, a4, a5] [b0, b1, b2, b3, b4, b5] l (q + 1) = E ++ [⟨56 + q, u, t, 0, x4, true⟩] by have h := HY.out; simpa using h)
  clear HY
  go_wp2_with (at_builtin; refine es_append_b rfl _ _ rfl U (HX.out.trans (show Ext wr _ by exact exF)) (Nat.le_refl _) (by (first | exact Nat.le_refl _ | (simp; done) | (simp; omega))) rfl (Own.of_ext HOw.out (show Ext wr _ by exact exF)) _ 1 1 rfl [⟨56 + q, u, t, 0, x4, true⟩] rfl (news_new rfl _ (by (first | rfl | (simp; done)))) (by have := HEl.out; omega) ?_; rintro v9 w9 hv9 hX9 hB9; have HV9 := hid hv9; have HX9 := hid hX9; clear hv9 hX9 hB9)
  go_roundw
  case rel => exact ⟨q + 1, by omega, by go_num, hid (by rw [HY2.out]; exact HV9.out), HX9⟩
  case measure => simp [intOf]; omega
 ·have HY2 := hid (show entsTo [a0, a1, a2, a3, a4, a5] [b0, b1, b2, b3, b4, b5] l (q + 1) = E ++ [⟨56 + q, u + 1, t, 0, u + 1, false⟩] by have h := HY.out; simpa using h)
  clear HY
  go_wp2_with (at_builtin; refine es_append_b rfl _ _ rfl U (HX.out.trans (show Ext wr _ by exact exF)) (Nat.le_refl _) (by (first | exact Nat.le_refl _ | (simp; done) | (simp; omega))) rfl (Own.of_ext HOw.out (show Ext wr _ by exact exF)) _ 1 1 rfl [⟨56 + q, u + 1, t, 0, u + 1, false⟩] rfl (news_new rfl _ (by (first | rfl | (simp; done)))) (by have := HEl.out; omega) ?_; rintro v9 w9 hv9 hX9 hB9; have HV9 := hid hv9; have HX9 := hid hX9; clear hv9 hX9 hB9)
  go_roundw
  case rel => exact ⟨q + 1, by omega, by go_num, hid (by rw [HY2.out]; exact HV9.out), HX9⟩
  case measure => simp [intOf]; omega
 ·have HY2 := hid (show entsTo [a0, a1, a2, a3, a4, a5] [b0, b1, b2, b3, b4, b5] l (q + 1) = E ++ [⟨56 + q, u + 1, t, 0, x4, true⟩] by have h := HY.out; simpa using h)
  clear HY
  go_upto_region 13 with fail
  generalize hW9 : World.setCell _ _ _ = W9
  have HB9 := hid (show Blk W9 g8 [.int .i64 (56 + q), .int .i64 (u + 1), .int .u32 t, .int .u32 0, .int .i64 (u + 1), .bool true] by rw [← hW9]; exact (HB8.out.set 1 (by simp) _).set 4 (by simp) _)
  have HX9w := hid (show Ext wr W9 by rw [← hW9]; exact exF)
  have p39 := HX9w.out.cell HK3.out
  have hbm9 : bm < W9.heap.size := Nat.lt_of_lt_of_le hbm HX9w.out.size
  clear hW9 e0 e1 e2 e3 e4 e5 z1 z4 z5 p1 p3 hbm2
  have e0 := HB9.out.2.2 0 _ rfl
  have e1 := HB9.out.2.2 1 _ rfl
  have e2 := HB9.out.2.2 2 _ rfl
  have e3 := HB9.out.2.2 3 _ rfl
  have e4 := HB9.out.2.2 4 _ rfl
  have e5 := HB9.out.2.2 5 _ rfl
  have z4 := HB9.out.2.1 4
  have z5 := HB9.out.1
  go_wp2_with (at_builtin; refine es_append_b rfl _ _ rfl U (HX.out.trans (show Ext wr _ by exact exF)) (Nat.le_refl _) (by (first | exact Nat.le_refl _ | (simp; done) | (simp; omega))) rfl (Own.of_ext HOw.out (show Ext wr _ by exact exF)) _ 1 1 rfl [⟨56 + q, u + 1, t, 0, x4, true⟩] rfl (news_new rfl _ (by (first | rfl | (simp; done)))) (by have := HEl.out; omega) ?_; rintro v9 w9 hv9 hX9 hB9; have HV9 := hid hv9; have HX9 := hid hX9; clear hv9 hX9 hB9)
  go_roundw
  case rel => exact ⟨q + 1, by omega, by go_num, hid (by rw [HY2.out]; exact HV9.out), HX9⟩
  case measure => simp [intOf]; omega
end
end Go.Proofs.YtiacdohaiidehaaGreatDoor
