/- The walk of law 19's memory. -/
import Derived.Test.YtojcojghnhibmaaDoorAwkA
import Derived.Test.YtojcojghnhibmaaDoorArgs
import Derived.Test.YtojcojghnhibmaaDoorHeld
namespace Go.Proofs.YtojcojghnhibmaaDoor
set_option linter.unusedSimpArgs false
set_option linter.unusedVariables false
open Go.RowKit

/-- Plain: the first k words put, each at its number modulo the length. -/
def memTo (L : List Wd) (pl : List Pt) : Nat → List Wd
  | 0 => L
  | k + 1 => match pl[k]? with
    | some x => (memTo L pl k).set (x.1 % (L.length : Int)).toNat x.2
    | none => memTo L pl k
theorem memTo_len (L : List Wd) (pl : List Pt) (k : Nat) : (memTo L pl k).length = L.length := by
  induction k with
  | zero => rfl
  | succ k ih => simp only [memTo]; split <;> simp [ih]
theorem memTo_succ {L : List Wd} {pl : List Pt} {k : Nat} {x : Pt} (h : pl[k]? = some x) : memTo L pl (k + 1) = (memTo L pl k).set (x.1 % (L.length : Int)).toNat x.2 := by
  simp only [memTo, h]

set_option maxRecDepth 100000 in
set_option maxHeartbeats 2000000 in
theorem mem_any (t c b : Int) (hr : rightN t c b = true) (pl : List Pt) (pv : Value) (hok : ∀ a ∈ pl, PtOk a) (hpl : pl.length ≤ 40) (w : World) (hs : Szs w) (hv : Sl w 4 ptE pv pl) :
    Calls Tryd.prog 22 #[.agg #[.int .i64 t, .int .i64 c, .int .i64 b], pv] w fun e w' => ∃ v, e = .returned v ∧ (∃ r, w' = ext w r) ∧ Ws w' w.heap.size v (memTo (firstL t c b) pl pl.length) := by
  have HS := hid hs
  have HV := hid hv
  have HO := hid hok
  obtain ⟨a, cp, rfl, ⟨hm, hlc⟩, _⟩ := hv
  obtain ⟨_, hf1, hf2, hf3, hf4⟩ := from_le7 (right_lok hr).1
  have h7 := (right_lok hr).2
  obtain ⟨n, hn⟩ : ∃ n, n = (firstL t c b).length := ⟨_, rfl⟩
  have hnv : (n : Int) = fromN t c b 7 := by rw [hn]; unfold firstL; rw [if_pos hr, first2_len]; omega
  have HN := hid hn
  have hn0 : (0 : Int) < (n : Int) := by omega
  have hn9 : (n : Int) ≤ 4096 := by omega
  clear hs hok hn hnv hm hlc
  go_enter Tryd.func22, Tryd.ntmps22
  go_wp2_with fail
  refine (first_any t c b _ (HS.out.of (by (show Ext _ _; repeat (first | with_reducible (refine Hid.out ?_; assumption) | with_reducible exact Ext.refl _ | with_reducible refine Ext.ext ?_ _ | with_reducible refine Ext.alloc ?_ _ | refine Ext.drew ?_ | refine Ext.drewN ?_ _ | exact Ext.refl _))))).mono ?_
  rintro e w' ⟨v8, rfl, ⟨r1, rfl⟩, hv8⟩
  obtain ⟨g, c8, rfl, hg1, hg2⟩ := Ws.open hv8 (by have := HN.out; omega)
  rw [← HN.out] at hv8 ⊢
  have HL0 := hid hv8
  simp only [World.size_alloc] at hg1
  clear hv8
  go_wp2_with fail
  go_loopw [6] (fun i wr => ∃ j : Nat, j ≤ pl.length ∧ i = .int .i64 j ∧ Hid (Ws wr (w.heap.size + 1) (.slice (some ⟨g, 0, none⟩) n c8) (memTo (firstL t c b) pl j)) ∧ Hid (Ext w wr)) (fun i _ => pl.length - (intOf i).toNat)
  case atStart => exact ⟨0, by omega, rfl, hid (show Ws _ _ _ (firstL t c b) from by have := HL0.out; simpa using this), hid (by (show Ext _ _; repeat (first | with_reducible (refine Hid.out ?_; assumption) | with_reducible exact Ext.refl _ | with_reducible refine Ext.ext ?_ _ | with_reducible refine Ext.alloc ?_ _ | refine Ext.drew ?_ | refine Ext.drewN ?_ _ | exact Ext.refl _)))⟩
  case round =>
    clear HL0
    obtain ⟨j, hj, rfl, HL, HX⟩ := hrel
    by_cases hjl : j < pl.length
    · have hd : decide (j < pl.length) = true := decide_eq_true hjl
      have hx := List.getElem?_eq_getElem hjl
      generalize pl[j] = x at hx
      obtain ⟨⟨hx0, hx1⟩, _⟩ := HO.out x (List.mem_of_getElem? hx)
      obtain ⟨_, b0, o, hab, hbl, hcs⟩ := Sl.at (HV.out.of ptE_len HX.out) hx
      obtain ⟨_, b0', o', hab', hbl0, hcs0⟩ := Sl.at HV.out hx
      subst hab
      cases hab'
      have HA := hid (memTo_succ (L := firstL t c b) hx)
      obtain ⟨x0, x1, x2, x3⟩ := x
      dsimp only at hx0 hx1
      obtain ⟨q, hq⟩ := Int.eq_ofNat_of_zero_le (Int.emod_nonneg x0 (show (n : Int) ≠ 0 by omega))
      have hqn : x0 % (n : Int) < (n : Int) := Int.emod_lt_of_pos _ hn0
      rw [hq] at hqn
      have ht : x0.tmod (n : Int) = (q : Int) := by rw [Int.tmod_eq_emod_of_nonneg hx0]; exact hq
      have k0 := hcs0 0 (by omega)
      have k1 := hcs0 1 (by omega)
      have k2 := hcs0 2 (by omega)
      have k3 := hcs0 3 (by omega)
      simp [ptE] at k0 k1 k2 k3
      have hlen : (memTo (firstL t c b) pl j).length = n := by rw [memTo_len, ← HN.out]
      obtain ⟨⟨y1, y2, y3⟩, hy⟩ : ∃ y, (memTo (firstL t c b) pl j)[q]? = some y := ⟨_, List.getElem?_eq_getElem (by rw [hlen]; omega)⟩
      obtain ⟨m0, m1, m2⟩ := Ws.cells HL.out hy
      have f0 := Ws.free HL.out (q * 3)
      have f1 := Ws.free HL.out (q * 3 + 1)
      have f2 := Ws.free HL.out (q * 3 + 2)
      have HLn := hid hlen
      have HQ := hid hq
      have hjj : (j : Int) < (pl.length : Int) := by omega
      have hqi : (0 : Int) ≤ (q : Int) := by omega
      have hwx : IntKind.i64.wrap x0 = x0 := IntWalk.i64_in _ (by omega)
      have hnz : ¬ n = 0 := by omega
      clear hcs hcs0 hx hy hlen hq hbl
      go_wp2_with fail
      refine wp_region_held_drew (S := fun w' => w'.cell? ⟨b0, o + j * 4, none⟩ = some (.int .u16 x0) ∧ w'.cell? ⟨b0, o + j * 4 + 1, none⟩ = some (.int .i64 x1) ∧ w'.cell? ⟨b0, o + j * 4 + 2, none⟩ = some (.int .u32 x2) ∧ w'.cell? ⟨b0, o + j * 4 + 3, none⟩ = some (.int .u32 x3)) (by kernel_rfl) (by exact ⟨(show Ext w _ by (show Ext _ _; repeat (first | with_reducible (refine Hid.out ?_; assumption) | with_reducible exact Ext.refl _ | with_reducible refine Ext.ext ?_ _ | with_reducible refine Ext.alloc ?_ _ | with_reducible refine Ext.drew ?_ | with_reducible refine Ext.setCell ?_ (by (try dsimp only); first | omega | (simp; done) | (simp; omega)) _))).cell k0, (show Ext w _ by (show Ext _ _; repeat (first | with_reducible (refine Hid.out ?_; assumption) | with_reducible exact Ext.refl _ | with_reducible refine Ext.ext ?_ _ | with_reducible refine Ext.alloc ?_ _ | with_reducible refine Ext.drew ?_ | with_reducible refine Ext.setCell ?_ (by (try dsimp only); first | omega | (simp; done) | (simp; omega)) _))).cell k1, (show Ext w _ by (show Ext _ _; repeat (first | with_reducible (refine Hid.out ?_; assumption) | with_reducible exact Ext.refl _ | with_reducible refine Ext.ext ?_ _ | with_reducible refine Ext.alloc ?_ _ | with_reducible refine Ext.drew ?_ | with_reducible refine Ext.setCell ?_ (by (try dsimp only); first | omega | (simp; done) | (simp; omega)) _))).cell k2, (show Ext w _ by (show Ext _ _; repeat (first | with_reducible (refine Hid.out ?_; assumption) | with_reducible exact Ext.refl _ | with_reducible refine Ext.ext ?_ _ | with_reducible refine Ext.alloc ?_ _ | with_reducible refine Ext.drew ?_ | with_reducible refine Ext.setCell ?_ (by (try dsimp only); first | omega | (simp; done) | (simp; omega)) _))).cell k3⟩) (fun hHeld => ?_)
      refine take_met 0 (oi := ⟨_, _, _, _, _, _⟩) (v := ?_) (by kernel_rfl) rfl (by rfl) (fun _ _ _ h => h) (by assumption) ?_ ?_
      rotate_left 1
      · intro w hSw
        try dsimp only at hSw
        go_simp
        try with_reducible rfl
      (try simp only [Act.put, List.setIfInBounds_toArray, List.set_cons_zero, List.set_cons_succ])
      refine take_met 1 (oi := ⟨_, _, _, _, _, _⟩) (v := ?_) (by kernel_rfl) rfl (by rfl) (fun _ _ _ h => h) (by assumption) ?_ ?_
      rotate_left 1
      · intro w hSw
        try dsimp only at hSw
        go_simp
        try with_reducible rfl
      (try simp only [Act.put, List.setIfInBounds_toArray, List.set_cons_zero, List.set_cons_succ])
      refine take_met 2 (oi := ⟨_, _, _, _, _, _⟩) (v := ?_) (by kernel_rfl) rfl (by rfl) (fun _ _ _ h => h) (by assumption) ?_ ?_
      rotate_left 1
      · intro w hSw
        try dsimp only at hSw
        go_simp
        try with_reducible rfl
      (try simp only [Act.put, List.setIfInBounds_toArray, List.set_cons_zero, List.set_cons_succ])
      refine take_met 3 (oi := ⟨_, _, _, _, _, _⟩) (v := ?_) (by kernel_rfl) rfl (by rfl) (fun _ _ _ h => h) (by assumption) ?_ ?_
      rotate_left 1
      · intro w hSw
        try dsimp only at hSw
        go_simp
        try with_reducible rfl
      (try simp only [Act.put, List.setIfInBounds_toArray, List.set_cons_zero, List.set_cons_succ])
      refine take_met 4 (oi := ⟨_, _, _, _, _, _⟩) (v := ?_) (by kernel_rfl) rfl (by rfl) (fun _ _ _ h => h) (by assumption) ?_ ?_
      rotate_left 1
      · intro w hSw
        try dsimp only at hSw
        go_simp
        try with_reducible rfl
      (try simp only [Act.put, List.setIfInBounds_toArray, List.set_cons_zero, List.set_cons_succ])
      refine take_met 5 (oi := ⟨_, _, _, _, _, _⟩) (v := ?_) (by kernel_rfl) rfl (by rfl) (fun _ _ _ h => h) (by assumption) ?_ ?_
      rotate_left 1
      · intro w hSw
        try dsimp only at hSw
        go_simp
        try with_reducible rfl
      (try simp only [Act.put, List.setIfInBounds_toArray, List.set_cons_zero, List.set_cons_succ])
      refine take_met 6 (oi := ⟨_, _, _, _, _, _⟩) (v := ?_) (by kernel_rfl) rfl (by rfl) (fun _ _ _ h => h) (by assumption) ?_ ?_
      rotate_left 1
      · intro w hSw
        try dsimp only at hSw
        go_simp
        try with_reducible rfl
      (try simp only [Act.put, List.setIfInBounds_toArray, List.set_cons_zero, List.set_cons_succ])
      refine take_met 7 (oi := ⟨_, _, _, _, _, _⟩) (v := ?_) (by kernel_rfl) rfl (by rfl) (fun _ _ _ h => h) (by assumption) ?_ ?_
      rotate_left 1
      · intro w hSw
        try dsimp only at hSw
        go_simp
        try with_reducible rfl
      (try simp only [Act.put, List.setIfInBounds_toArray, List.set_cons_zero, List.set_cons_succ])
      refine take_met 8 (oi := ⟨_, _, _, _, _, _⟩) (v := ?_) (by kernel_rfl) rfl (by rfl) (fun _ _ _ h => h) (by assumption) ?_ ?_
      rotate_left 1
      · intro w hSw
        try dsimp only at hSw
        go_simp
        try with_reducible rfl
      (try simp only [Act.put, List.setIfInBounds_toArray, List.set_cons_zero, List.set_cons_succ])
      refine take_met 9 (oi := ⟨_, _, _, _, _, _⟩) (v := ?_) (by kernel_rfl) rfl (by rfl) (fun _ _ _ h => h) (by assumption) ?_ ?_
      rotate_left 1
      · intro w hSw
        try dsimp only at hSw
        go_simp
        try with_reducible rfl
      (try simp only [Act.put, List.setIfInBounds_toArray, List.set_cons_zero, List.set_cons_succ])
      refine take_met 10 (oi := ⟨_, _, _, _, _, _⟩) (v := ?_) (by kernel_rfl) rfl (by rfl) (fun _ _ _ h => h) (by assumption) ?_ ?_
      rotate_left 1
      · intro w hSw
        try dsimp only at hSw
        go_simp
        try with_reducible rfl
      (try simp only [Act.put, List.setIfInBounds_toArray, List.set_cons_zero, List.set_cons_succ])
      refine take_met 11 (oi := ⟨_, _, _, _, _, _⟩) (v := ?_) (by kernel_rfl) rfl (by rfl) (fun _ _ _ h => h) (by assumption) ?_ ?_
      rotate_left 1
      · intro w hSw
        try dsimp only at hSw
        go_simp
        try with_reducible rfl
      (try simp only [Act.put, List.setIfInBounds_toArray, List.set_cons_zero, List.set_cons_succ])
      refine take_met 12 (oi := ⟨_, _, _, _, _, _⟩) (v := ?_) (by kernel_rfl) rfl (by rfl) (fun _ _ _ h => h) (by assumption) ?_ ?_
      rotate_left 1
      · intro w hSw
        try dsimp only at hSw
        go_simp
        try with_reducible rfl
      (try simp only [Act.put, List.setIfInBounds_toArray, List.set_cons_zero, List.set_cons_succ])
      refine take_met 13 (oi := ⟨_, _, _, _, _, _⟩) (v := ?_) (by kernel_rfl) rfl (by rfl) (fun _ _ _ h => h) (by assumption) ?_ ?_
      rotate_left 1
      · intro w hSw
        try dsimp only at hSw
        go_simp
        try with_reducible rfl
      (try simp only [Act.put, List.setIfInBounds_toArray, List.set_cons_zero, List.set_cons_succ])
      refine take_met 14 (oi := ⟨_, _, _, _, _, _⟩) (v := ?_) (by kernel_rfl) rfl (by rfl) (fun _ _ _ h => h) (by assumption) ?_ ?_
      rotate_left 1
      · intro w hSw
        try dsimp only at hSw
        go_simp
        try with_reducible rfl
      (try simp only [Act.put, List.setIfInBounds_toArray, List.set_cons_zero, List.set_cons_succ])
      refine take_met 15 (oi := ⟨_, _, _, _, _, _⟩) (v := ?_) (by kernel_rfl) rfl (by rfl) (fun _ _ _ h => h) (by assumption) ?_ ?_
      rotate_left 1
      · intro w hSw
        try dsimp only at hSw
        go_simp
        try with_reducible rfl
      (try simp only [Act.put, List.setIfInBounds_toArray, List.set_cons_zero, List.set_cons_succ])
      refine take_only 16 (oi := ⟨_, _, _, _, _, _⟩) (by kernel_rfl) rfl (fun K hK => ?_)
      go_simp
      have hOld := hHeld
      clear hHeld
      refine hK.out _ _ (by exact ⟨(show Ext w _ by (show Ext _ _; repeat (first | with_reducible (refine Hid.out ?_; assumption) | with_reducible exact Ext.refl _ | with_reducible refine Ext.ext ?_ _ | with_reducible refine Ext.alloc ?_ _ | with_reducible refine Ext.drew ?_ | with_reducible refine Ext.setCell ?_ (by (try dsimp only); first | omega | (simp; done) | (simp; omega)) _))).cell k0, (show Ext w _ by (show Ext _ _; repeat (first | with_reducible (refine Hid.out ?_; assumption) | with_reducible exact Ext.refl _ | with_reducible refine Ext.ext ?_ _ | with_reducible refine Ext.alloc ?_ _ | with_reducible refine Ext.drew ?_ | with_reducible refine Ext.setCell ?_ (by (try dsimp only); first | omega | (simp; done) | (simp; omega)) _))).cell k1, (show Ext w _ by (show Ext _ _; repeat (first | with_reducible (refine Hid.out ?_; assumption) | with_reducible exact Ext.refl _ | with_reducible refine Ext.ext ?_ _ | with_reducible refine Ext.alloc ?_ _ | with_reducible refine Ext.drew ?_ | with_reducible refine Ext.setCell ?_ (by (try dsimp only); first | omega | (simp; done) | (simp; omega)) _))).cell k2, (show Ext w _ by (show Ext _ _; repeat (first | with_reducible (refine Hid.out ?_; assumption) | with_reducible exact Ext.refl _ | with_reducible refine Ext.ext ?_ _ | with_reducible refine Ext.alloc ?_ _ | with_reducible refine Ext.drew ?_ | with_reducible refine Ext.setCell ?_ (by (try dsimp only); first | omega | (simp; done) | (simp; omega)) _))).cell k3⟩) (fun hHeld => ?_)
      clear hOld hK K
      (try simp only [Act.put, List.setIfInBounds_toArray, List.set_cons_zero, List.set_cons_succ])
      refine wpAnyH_done (by kernel_rfl) ?_ _
      go_wp2_with fail
      go_roundw
      case rel => exact ⟨j + 1, by omega, by go_num, hid (by rw [HA.out, ← HN.out, HQ.out, Int.toNat_natCast]; exact Ws.put HL.out (by rw [HLn.out]; omega) x1 x2 x3), hid (by (show Ext _ _; repeat (first | with_reducible (refine Hid.out ?_; assumption) | with_reducible exact Ext.refl _ | with_reducible refine Ext.ext ?_ _ | with_reducible refine Ext.alloc ?_ _ | with_reducible refine Ext.drew ?_ | with_reducible refine Ext.setCell ?_ (by (try dsimp only); first | omega | (simp; done) | (simp; omega)) _)))⟩
      case measure => simp [intOf]; omega
    · have hd : decide (j < pl.length) = false := decide_eq_false hjl
      obtain rfl : j = pl.length := by omega
      go_wp2_with fail
      go_ret
      exact ⟨_, rfl, HX.out, Own.mono HL.out (Nat.le_succ _)⟩

end Go.Proofs.YtojcojghnhibmaaDoor
