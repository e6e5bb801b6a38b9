/- The walk of the statement DetectAsks. -/
import Derived.Test.YtlijgheghodfeaaDoorDetFWalk
import Derived.Test.YtlijgheghodfeaaDoorDetS
import Derived.Test.YtlijgheghodfeaaDoorAwkA
namespace Go.Proofs.YtlijgheghodfeaaDoor
set_option linter.unusedSimpArgs false
set_option linter.unusedVariables false
open Go.RowKit

/-- Plain: the image with the first words of a record put. -/
def recL (L : List Wd) (p : Nat) (x y z : Wd) : Nat → List Wd
  | 0 => L
  | 1 => L.set p x
  | 2 => (L.set p x).set (p + 1) y
  | _ => ((L.set p x).set (p + 1) y).set (p + 2) z
theorem recL_len (L : List Wd) (p : Nat) (x y z : Wd) (j : Nat) : (recL L p x y z j).length = L.length := by
  match j with
  | 0 => rfl
  | 1 => simp [recL]
  | 2 => simp [recL]
  | j + 3 => simp [recL]
theorem recL_succ (L : List Wd) (p : Nat) (x y z u : Wd) (j : Nat) (hu : [x, y, z][j]? = some u) : (recL L p x y z j).set (p + j) u = recL L p x y z (j + 1) := by
  match j, hu with
  | 0, hu => cases hu; rfl
  | 1, hu => cases hu; rfl
  | 2, hu => cases hu; rfl
theorem recL_ok {L : List Wd} {p : Nat} {x y z : Wd} (hL : ∀ a ∈ L, WdOk a) (hx : WdOk x) (hy : WdOk y) (hz : WdOk z) (j : Nat) : ∀ a ∈ recL L p x y z j, WdOk a := by
  have st : ∀ (L : List Wd) (i : Nat) (x : Wd), (∀ a ∈ L, WdOk a) → WdOk x → ∀ a ∈ L.set i x, WdOk a := by
    intro L i x h hx a ha
    rcases List.mem_or_eq_of_mem_set ha with h1 | h1
    · exact h a h1
    · subst h1; exact hx
  match j with
  | 0 => exact hL
  | 1 => exact st _ _ _ hL hx
  | 2 => exact st _ _ _ (st _ _ _ hL hx) hy
  | j + 3 => exact st _ _ _ (st _ _ _ (st _ _ _ hL hx) hy) hz
theorem f24_okB : (firstL 3 8 0).all (fun a => decide ((-9223372036854775808 ≤ a.1 ∧ a.1 ≤ 9223372036854775807) ∧ (0 ≤ a.2.1 ∧ a.2.1 ≤ 4294967295) ∧ (0 ≤ a.2.2 ∧ a.2.2 ≤ 4294967295))) = true := by kernel_rfl
theorem f24_ok : ∀ a ∈ firstL 3 8 0, WdOk a := by
  intro a ha
  have := List.all_eq_true.1 f24_okB a ha
  rw [decide_eq_true_eq] at this
  exact this
/-- Plain: an array of three words, the first j laid. -/
def arrV (x y z : Wd) : Nat → List Value
  | 0 => wdE (0, 0, 0) ++ wdE (0, 0, 0) ++ wdE (0, 0, 0)
  | 1 => wdE x ++ wdE (0, 0, 0) ++ wdE (0, 0, 0)
  | 2 => wdE x ++ wdE y ++ wdE (0, 0, 0)
  | _ => wdE x ++ wdE y ++ wdE z
theorem arrV_len (x y z : Wd) (j : Nat) : (arrV x y z j).length = 9 := by
  match j with
  | 0 => rfl
  | 1 => rfl
  | 2 => rfl
  | j + 3 => rfl
theorem arrV_succ (x y z u : Wd) (j : Nat) (hu : [x, y, z][j]? = some u) : (((arrV x y z j).set (j * 3) (.int .i64 u.1)).set (j * 3 + 1) (.int .u32 u.2.1)).set (j * 3 + 2) (.int .u32 u.2.2) = arrV x y z (j + 1) := by
  match j, hu with
  | 0, hu => cases hu; rfl
  | 1, hu => cases hu; rfl
  | 2, hu => cases hu; rfl
theorem arr_at (x y z u : Wd) (j : Nat) (hu : [x, y, z][j]? = some u) : (wdE x ++ wdE y ++ wdE z)[j * 3]? = some (.int .i64 u.1) ∧ (wdE x ++ wdE y ++ wdE z)[j * 3 + 1]? = some (.int .u32 u.2.1) ∧ (wdE x ++ wdE y ++ wdE z)[j * 3 + 2]? = some (.int .u32 u.2.2) := by
  match j, hu with
  | 0, hu => cases hu; exact ⟨rfl, rfl, rfl⟩
  | 1, hu => cases hu; exact ⟨rfl, rfl, rfl⟩
  | 2, hu => cases hu; exact ⟨rfl, rfl, rfl⟩

set_option maxRecDepth 100000 in
set_option maxHeartbeats 4000000 in
theorem deta_any (t : Int) (ht : -9223372036854775808 ≤ t ∧ t ≤ 9223372036854775807) (x y z : Wd) (hx : WdOk x) (hy : WdOk y) (hz : WdOk z) (n : Int) (hn : -9223372036854775808 ≤ n ∧ n ≤ 9223372036854775807) (w : World) (hs : Szs w) :
    Calls Tryd.prog 4 #[.int .i64 t, .agg #[.int .i64 x.1, .int .u32 x.2.1, .int .u32 x.2.2, .int .i64 y.1, .int .u32 y.2.1, .int .u32 y.2.2, .int .i64 z.1, .int .u32 z.2.1, .int .u32 z.2.2], .int .i64 n] w fun e w' => e = .returned (.bool true) ∧ ∃ r, w' = ext w r := by
  have HS := hid hs
  have HX := hid hx
  have HY := hid hy
  have HZ := hid hz
  have hea := eq_ans
  have hga := eq_guard_ans
  have hrec := rec24 t ht.1 ht.2
  obtain ⟨p, hp⟩ : ∃ p, p = recN 3 8 0 t := ⟨_, rfl⟩
  rw [← hp] at hrec
  have HP := hid hp.symm
  have HP2 := hid (show atN 3 8 0 2 (wrap64 (t - 1)) 0 = p from hp.symm)
  clear hs hx hy hz hp ht
  go_enter Tryd.func4, Tryd.ntmps4
  go_wp2_with fail
  refine (awake24_any _ (HS.out.of (by (show Ext _ _; repeat (first | with_reducible (refine Hid.out ?_; assumption) | with_reducible exact Ext.refl _ | with_reducible refine Ext.ext ?_ _ | with_reducible refine Ext.alloc ?_ _ | refine Ext.drew ?_ | refine Ext.drewN ?_ _ | exact Ext.refl _))))).mono ?_
  rintro e w' ⟨rfl, r1, rfl⟩
  go_wp2_with fail
  refine (plan24_any _).mono ?_
  rintro e w' ⟨rfl, r2, rfl⟩
  go_wp2_with fail
  refine (first_any 3 8 0 _ (HS.out.of (by (show Ext _ _; repeat (first | with_reducible (refine Hid.out ?_; assumption) | with_reducible exact Ext.refl _ | with_reducible refine Ext.ext ?_ _ | with_reducible refine Ext.alloc ?_ _ | refine Ext.drew ?_ | refine Ext.drewN ?_ _ | exact Ext.refl _))))).mono ?_
  rintro e w' ⟨v8, rfl, ⟨r3, rfl⟩, hv8⟩
  obtain ⟨g, c8, rfl, hgl, hgs⟩ := Ws.open hv8 (by rw [aw24_len]; omega)
  rw [aw24_len] at hv8 ⊢
  go_wp2_with fail
  refine (size_any 3 8 0 _ (HS.out.of (by (show Ext _ _; repeat (first | with_reducible (refine Hid.out ?_; assumption) | with_reducible exact Ext.refl _ | with_reducible refine Ext.ext ?_ _ | with_reducible refine Ext.alloc ?_ _ | refine Ext.drew ?_ | refine Ext.drewN ?_ _ | exact Ext.refl _))))).mono ?_
  rintro e w' ⟨rfl, r4, rfl⟩
  rw [size24]
  go_wp2_with fail
  generalize hU : ext _ r4 = U
  have HEU := hid (show Ext w U by rw [← hU]; (show Ext _ _; repeat (first | with_reducible (refine Hid.out ?_; assumption) | with_reducible exact Ext.refl _ | with_reducible refine Ext.ext ?_ _ | with_reducible refine Ext.alloc ?_ _ | refine Ext.drew ?_ | refine Ext.drewN ?_ _ | exact Ext.refl _)))
  have HB4 := hid (show Blk U w.heap.size (wdE x ++ wdE y ++ wdE z) by rw [← hU]; (show Blk _ _ _; repeat (first | with_reducible (refine Hid.out ?_; assumption) | with_reducible refine Blk.drew ?_ | with_reducible refine Blk.ext ?_ _ | (with_reducible refine Blk.new _ _ rfl ?_; first | with_reducible rfl | (simp; done)) | with_reducible refine Blk.alloc ?_ _ | with_reducible assumption | with_reducible apply Blk.setE | (with_reducible refine Blk.other' ?_ ?_; first | omega | (simp; omega)) | (show List.set _ _ _ = _; exact rfl) | (show _ < List.length _; simp; done))))
  have HB7 := hid (show Blk U (w.heap.size + 1 + r1.new.size + r2.new.size) [.int .i64 3, .int .i64 8, .int .i64 0] by rw [← hU]; (show Blk _ _ _; repeat (first | with_reducible (refine Hid.out ?_; assumption) | with_reducible refine Blk.drew ?_ | with_reducible refine Blk.ext ?_ _ | (with_reducible refine Blk.new _ _ rfl ?_; first | with_reducible rfl | (simp; done)) | with_reducible refine Blk.alloc ?_ _ | with_reducible assumption | with_reducible apply Blk.setE | (with_reducible refine Blk.other' ?_ ?_; first | omega | (simp; omega)) | (show List.set _ _ _ = _; exact rfl) | (show _ < List.length _; simp; done))))
  have HLU := hid (show Ws U w.heap.size (.slice (some ⟨g, 0, none⟩) 376 c8) (firstL 3 8 0) from by
    have h := Own.mono hv8 (show w.heap.size ≤ _ by simp; omega)
    rw [← hU]
    exact Ws.of h (by (show Ext _ _; repeat (first | with_reducible (refine Hid.out ?_; assumption) | with_reducible exact Ext.refl _ | with_reducible refine Ext.ext ?_ _ | with_reducible refine Ext.alloc ?_ _ | refine Ext.drew ?_ | refine Ext.drewN ?_ _ | exact Ext.refl _))))
  have hg7 : w.heap.size + 1 + r1.new.size + r2.new.size < g := by simp at hgl; omega
  have hgU : g < U.heap.size := by rw [← hU]; simp at hgs ⊢; omega
  generalize hn7 : w.heap.size + 1 + r1.new.size + r2.new.size = n7 at *
  have hwn7 : w.heap.size < n7 := by omega
  clear hU hv8 hgl hgs
  by_cases hin : 1 ≤ t ∧ t ≤ 3
  rotate_left
  · rw [if_neg hin] at hrec
    have HAs := hid (show askN 3 8 0 (firstL 3 8 0) t = (0, (0, 0), 3) by
      unfold askN
      rw [if_neg (by rintro (h | h); exact h check24; rw [aw24_len, size24] at h; omega), if_pos (by rw [HP.out, hrec]; decide)])
    have HHp := hid (show hapV (askN 3 8 0 (firstL 3 8 0) t) n = ((0, 0), false, 3) by rw [HAs.out]; rfl)
    have HSl := hid (show Sl U 3 wdE (.slice (some ⟨g, 0, none⟩) 376 c8) (firstL 3 8 0) from Sl.of_own wdE_len HLU.out)
    have hcs : ¬ 1 ≤ t ∨ (1 ≤ t ∧ ¬ t ≤ 3) := by omega
    clear hin HP HP2 hrec HLU
    go_loopw [9] (fun i wr => i = .int .i64 0 ∧ wr = U) (fun _ _ => 0)
    case atStart => exact ⟨rfl, rfl⟩
    case round =>
    obtain ⟨rfl, rfl⟩ := hrel
    obtain ⟨l0, l1, l2⟩ := HB7.out.three
    have l4 := HB7.out.1
    rcases hcs with h1 | ⟨h1, h2⟩
    all_goals
      go_wp2_with fail
      refine (asked_any 3 8 0 t (firstL 3 8 0) _ f24_ok (by rw [aw24_len]; omega) _ (HS.out.of (HEU.out.trans (by (show Ext _ _; repeat (first | with_reducible (refine Hid.out ?_; assumption) | with_reducible exact Ext.refl _ | with_reducible refine Ext.ext ?_ _ | with_reducible refine Ext.alloc ?_ _ | refine Ext.drew ?_ | refine Ext.drewN ?_ _ | exact Ext.refl _))))) (HSl.out.of wdE_len (by (show Ext _ _; repeat (first | with_reducible (refine Hid.out ?_; assumption) | with_reducible exact Ext.refl _ | with_reducible refine Ext.ext ?_ _ | with_reducible refine Ext.alloc ?_ _ | refine Ext.drew ?_ | refine Ext.drewN ?_ _ | exact Ext.refl _))))).mono ?_
      rintro e w' ⟨rfl, r5, rfl⟩
      rw [HAs.out]
      dsimp only
      go_wp2_with fail
      refine (happened_any 3 8 0 t n (firstL 3 8 0) _ f24_ok (by rw [aw24_len]; omega) _ (HS.out.of (HEU.out.trans (by (show Ext _ _; repeat (first | with_reducible (refine Hid.out ?_; assumption) | with_reducible exact Ext.refl _ | with_reducible refine Ext.ext ?_ _ | with_reducible refine Ext.alloc ?_ _ | refine Ext.drew ?_ | refine Ext.drewN ?_ _ | exact Ext.refl _))))) (HSl.out.of wdE_len (by (show Ext _ _; repeat (first | with_reducible (refine Hid.out ?_; assumption) | with_reducible exact Ext.refl _ | with_reducible refine Ext.ext ?_ _ | with_reducible refine Ext.alloc ?_ _ | refine Ext.drew ?_ | refine Ext.drewN ?_ _ | exact Ext.refl _))))).mono ?_
      rintro e w' ⟨rfl, r6, rfl⟩
      rw [HHp.out]
      dsimp only
      go_wp2_with fail
      go_ret
      exact ⟨rfl, HEU.out.trans (by (show Ext _ _; repeat (first | with_reducible (refine Hid.out ?_; assumption) | with_reducible exact Ext.refl _ | with_reducible refine Ext.ext ?_ _ | with_reducible refine Ext.alloc ?_ _ | refine Ext.drew ?_ | refine Ext.drewN ?_ _ | exact Ext.refl _)))⟩
  rw [if_pos hin] at hrec
  obtain ⟨hi1, hi2⟩ := hin
  obtain ⟨P, rfl⟩ := Int.eq_ofNat_of_zero_le (show 0 ≤ p by omega)
  have hP : P + 3 ≤ 56 ∧ 32 ≤ P := by omega
  clear hrec
  go_loopw [9] (fun i wr => ∃ j : Nat, j ≤ 3 ∧ i = .int .i64 j ∧ Hid (Ws wr w.heap.size (.slice (some ⟨g, 0, none⟩) 376 c8) (recL (firstL 3 8 0) P x y z j)) ∧ Hid (Grn g U wr)) (fun i _ => 3 - (intOf i).toNat)
  case atStart => exact ⟨0, by omega, rfl, HLU, hid Grn.refl⟩
  case round =>
  clear HLU
  obtain ⟨j, hj, rfl, HL, HG⟩ := hrel
  have hUs := HEU.out.size
  have HEw := hid (HEU.out.grn HG.out (by omega))
  have HB4w := hid (HB4.out.grn HG.out (by omega))
  have HB7w := hid (HB7.out.grn HG.out (by omega))
  have hgw : g < wr.heap.size := Nat.lt_of_lt_of_le hgU HG.out.size
  by_cases hj3 : j < 3
  · have hjj : (j : Int) < 3 := by omega
    obtain ⟨u, hu⟩ : ∃ u, [x, y, z][j]? = some u := ⟨_, List.getElem?_eq_getElem (by show j < 3; exact hj3)⟩
    have HA := hid (recL_succ (firstL 3 8 0) P x y z u j hu)
    obtain ⟨k0, k1, k2⟩ := arr_at x y z u j hu
    have k0u := HB4w.out.2.2 _ _ k0
    have k1u := HB4w.out.2.2 _ _ k1
    have k2u := HB4w.out.2.2 _ _ k2
    have k4u := HB4w.out.1
    obtain ⟨u1, u2, u3⟩ := u
    dsimp only at k0u k1u k2u
    obtain ⟨l0, l1, l2⟩ := HB7w.out.three
    have l4 := HB7w.out.1
    have hlen : (recL (firstL 3 8 0) P x y z j).length = 376 := by rw [recL_len, aw24_len]
    have HLn := hid hlen
    obtain ⟨⟨y1, y2, y3⟩, hy⟩ : ∃ y', (recL (firstL 3 8 0) P x y z j)[P + j]? = some y' := ⟨_, List.getElem?_eq_getElem (by rw [hlen]; omega)⟩
    obtain ⟨m0, m1, m2⟩ := Ws.cells HL.out hy
    have f0 := Ws.free HL.out ((P + j) * 3)
    have f1 := Ws.free HL.out ((P + j) * 3 + 1)
    have f2 := Ws.free HL.out ((P + j) * 3 + 2)
    have t0 : (0 : Int) ≤ (P : Int) + (j : Int) := by omega
    have t1 : ((P : Int) + (j : Int)).toNat = P + j := by omega
    have t2 : (P : Int) + (j : Int) < 376 := by omega
    have t3 : IntKind.i64.wrap ((P : Int) + (j : Int)) = (P : Int) + (j : Int) := IntWalk.i64_in _ (by omega)
    have HPj := hid (show P + j < 376 by omega)
    clear hu k0 k1 k2 hlen hy
    go_upto_region 10 with fail
    refine wp_region_held_drew (S := fun w' => (w'.cell? ⟨n7, 0, none⟩ = some (.int .i64 3) ∧ w'.cell? ⟨n7, 1, none⟩ = some (.int .i64 8) ∧ w'.cell? ⟨n7, 2, none⟩ = some (.int .i64 0)) ∧ (w'.cell? ⟨w.heap.size, j * 3, none⟩ = some (.int .i64 u1) ∧ w'.cell? ⟨w.heap.size, j * 3 + 1, none⟩ = some (.int .u32 u2) ∧ w'.cell? ⟨w.heap.size, j * 3 + 2, none⟩ = some (.int .u32 u3))) (by kernel_rfl) (by exact ⟨⟨(show Grn g wr _ from by first | exact Grn.refl.drew | exact (Grn.refl.drew.ext _) | exact (((Grn.refl.drew.ext _).setCell _ _).setCell _ _).setCell _ _).cell (by omega) l0, (show Grn g wr _ from by first | exact Grn.refl.drew | exact (Grn.refl.drew.ext _) | exact (((Grn.refl.drew.ext _).setCell _ _).setCell _ _).setCell _ _).cell (by omega) l1, (show Grn g wr _ from by first | exact Grn.refl.drew | exact (Grn.refl.drew.ext _) | exact (((Grn.refl.drew.ext _).setCell _ _).setCell _ _).setCell _ _).cell (by omega) l2⟩, (show Grn g wr _ from by first | exact Grn.refl.drew | exact (Grn.refl.drew.ext _) | exact (((Grn.refl.drew.ext _).setCell _ _).setCell _ _).setCell _ _).cell (by omega) k0u, (show Grn g wr _ from by first | exact Grn.refl.drew | exact (Grn.refl.drew.ext _) | exact (((Grn.refl.drew.ext _).setCell _ _).setCell _ _).setCell _ _).cell (by omega) k1u, (show Grn g wr _ from by first | exact Grn.refl.drew | exact (Grn.refl.drew.ext _) | exact (((Grn.refl.drew.ext _).setCell _ _).setCell _ _).setCell _ _).cell (by omega) k2u⟩) (fun hHeld => ?_)
    refine take_met 0 (oi := ⟨_, _, _, _, _, _⟩) (v := ?_) (by kernel_rfl) rfl (by rfl) (fun _ _ _ h => h) (by assumption) ?_ ?_
    rotate_left 1
    · intro w hSw
      try dsimp only at hSw
      go_simp
      try with_reducible rfl
    (try simp only [Act.put, List.setIfInBounds_toArray, List.set_cons_zero, List.set_cons_succ])
    refine take_met 1 (oi := ⟨_, _, _, _, _, _⟩) (v := ?_) (by kernel_rfl) rfl (by rfl) (fun _ _ _ h => h) (by assumption) ?_ ?_
    rotate_left 1
    · intro w hSw
      try dsimp only at hSw
      go_simp
      try with_reducible rfl
    (try simp only [Act.put, List.setIfInBounds_toArray, List.set_cons_zero, List.set_cons_succ])
    refine take_met 2 (oi := ⟨_, _, _, _, _, _⟩) (v := ?_) (by kernel_rfl) rfl (by rfl) (fun _ _ _ h => h) (by assumption) ?_ ?_
    rotate_left 1
    · intro w hSw
      try dsimp only at hSw
      go_simp
      try with_reducible rfl
    (try simp only [Act.put, List.setIfInBounds_toArray, List.set_cons_zero, List.set_cons_succ])
    refine take_met 4 (oi := ⟨_, _, _, _, _, _⟩) (v := ?_) (by kernel_rfl) rfl (by rfl) (fun _ _ _ h => h) (by assumption) ?_ ?_
    rotate_left 1
    · intro w hSw
      try dsimp only at hSw
      go_simp
      try with_reducible rfl
    (try simp only [Act.put, List.setIfInBounds_toArray, List.set_cons_zero, List.set_cons_succ])
    refine take_met 6 (oi := ⟨_, _, _, _, _, _⟩) (v := ?_) (by kernel_rfl) rfl (by rfl) (fun _ _ _ h => h) (by assumption) ?_ ?_
    rotate_left 1
    · intro w hSw
      try dsimp only at hSw
      go_simp
      try with_reducible rfl
    (try simp only [Act.put, List.setIfInBounds_toArray, List.set_cons_zero, List.set_cons_succ])
    refine take_met 7 (oi := ⟨_, _, _, _, _, _⟩) (v := ?_) (by kernel_rfl) rfl (by rfl) (fun _ _ _ h => h) (by assumption) ?_ ?_
    rotate_left 1
    · intro w hSw
      try dsimp only at hSw
      go_simp
      try with_reducible rfl
    (try simp only [Act.put, List.setIfInBounds_toArray, List.set_cons_zero, List.set_cons_succ])
    refine take_met 8 (oi := ⟨_, _, _, _, _, _⟩) (v := ?_) (by kernel_rfl) rfl (by rfl) (fun _ _ _ h => h) (by assumption) ?_ ?_
    rotate_left 1
    · intro w hSw
      try dsimp only at hSw
      go_simp
      try with_reducible rfl
    (try simp only [Act.put, List.setIfInBounds_toArray, List.set_cons_zero, List.set_cons_succ])
    refine take_only 3 (oi := ⟨_, _, _, _, _, _⟩) (by kernel_rfl) rfl (fun K hK => ?_)
    go_simp
    first
      | (go_at_call 12; refine (record_any 3 8 0 t _ (HS.out.of (HEw.out.trans (by (show Ext _ _; repeat (first | with_reducible (refine Hid.out ?_; assumption) | with_reducible exact Ext.refl _ | with_reducible refine Ext.ext ?_ _ | with_reducible refine Ext.alloc ?_ _ | refine Ext.drew ?_ | refine Ext.drewN ?_ _ | exact Ext.refl _)))))).mono ?_; rintro e w' ⟨rfl, r5, rfl⟩; rw [HP2.out])
    have hOld := hHeld
    clear hHeld
    refine hK.out _ _ (by exact ⟨⟨(show Grn g wr _ from by first | exact Grn.refl.drew | exact (Grn.refl.drew.ext _) | exact (((Grn.refl.drew.ext _).setCell _ _).setCell _ _).setCell _ _).cell (by omega) l0, (show Grn g wr _ from by first | exact Grn.refl.drew | exact (Grn.refl.drew.ext _) | exact (((Grn.refl.drew.ext _).setCell _ _).setCell _ _).setCell _ _).cell (by omega) l1, (show Grn g wr _ from by first | exact Grn.refl.drew | exact (Grn.refl.drew.ext _) | exact (((Grn.refl.drew.ext _).setCell _ _).setCell _ _).setCell _ _).cell (by omega) l2⟩, (show Grn g wr _ from by first | exact Grn.refl.drew | exact (Grn.refl.drew.ext _) | exact (((Grn.refl.drew.ext _).setCell _ _).setCell _ _).setCell _ _).cell (by omega) k0u, (show Grn g wr _ from by first | exact Grn.refl.drew | exact (Grn.refl.drew.ext _) | exact (((Grn.refl.drew.ext _).setCell _ _).setCell _ _).setCell _ _).cell (by omega) k1u, (show Grn g wr _ from by first | exact Grn.refl.drew | exact (Grn.refl.drew.ext _) | exact (((Grn.refl.drew.ext _).setCell _ _).setCell _ _).setCell _ _).cell (by omega) k2u⟩) (fun hHeld => ?_)
    clear hOld hK K
    (try simp only [Act.put, List.setIfInBounds_toArray, List.set_cons_zero, List.set_cons_succ])
    refine take_met 5 (oi := ⟨_, _, _, _, _, _⟩) (v := ?_) (by kernel_rfl) rfl (by rfl) (fun _ _ _ h => h) (by assumption) ?_ ?_
    rotate_left 1
    · intro w hSw
      try dsimp only at hSw
      go_simp
      try with_reducible rfl
    (try simp only [Act.put, List.setIfInBounds_toArray, List.set_cons_zero, List.set_cons_succ])
    refine take_met 9 (oi := ⟨_, _, _, _, _, _⟩) (v := ?_) (by kernel_rfl) rfl (by rfl) (fun _ _ _ h => h) (by assumption) ?_ ?_
    rotate_left 1
    · intro w hSw
      try dsimp only at hSw
      go_simp
      try with_reducible rfl
    (try simp only [Act.put, List.setIfInBounds_toArray, List.set_cons_zero, List.set_cons_succ])
    refine take_only 10 (oi := ⟨_, _, _, _, _, _⟩) (by kernel_rfl) rfl (fun K hK => ?_)
    go_simp
    have hOld := hHeld
    clear hHeld
    refine hK.out _ _ (by exact ⟨⟨(show Grn g wr _ from by first | exact Grn.refl.drew | exact (Grn.refl.drew.ext _) | exact (((Grn.refl.drew.ext _).setCell _ _).setCell _ _).setCell _ _).cell (by omega) l0, (show Grn g wr _ from by first | exact Grn.refl.drew | exact (Grn.refl.drew.ext _) | exact (((Grn.refl.drew.ext _).setCell _ _).setCell _ _).setCell _ _).cell (by omega) l1, (show Grn g wr _ from by first | exact Grn.refl.drew | exact (Grn.refl.drew.ext _) | exact (((Grn.refl.drew.ext _).setCell _ _).setCell _ _).setCell _ _).cell (by omega) l2⟩, (show Grn g wr _ from by first | exact Grn.refl.drew | exact (Grn.refl.drew.ext _) | exact (((Grn.refl.drew.ext _).setCell _ _).setCell _ _).setCell _ _).cell (by omega) k0u, (show Grn g wr _ from by first | exact Grn.refl.drew | exact (Grn.refl.drew.ext _) | exact (((Grn.refl.drew.ext _).setCell _ _).setCell _ _).setCell _ _).cell (by omega) k1u, (show Grn g wr _ from by first | exact Grn.refl.drew | exact (Grn.refl.drew.ext _) | exact (((Grn.refl.drew.ext _).setCell _ _).setCell _ _).setCell _ _).cell (by omega) k2u⟩) (fun hHeld => ?_)
    clear hOld hK K
    (try simp only [Act.put, List.setIfInBounds_toArray, List.set_cons_zero, List.set_cons_succ])
    refine wpAnyH_done (by kernel_rfl) ?_ _
    go_wp2_with fail
    go_roundw
    case rel => exact ⟨j + 1, by omega, by go_num, hid (by rw [← HA.out]; exact Ws.put (HL.out.of (by (show Ext _ _; repeat (first | with_reducible (refine Hid.out ?_; assumption) | with_reducible exact Ext.refl _ | with_reducible refine Ext.ext ?_ _ | with_reducible refine Ext.alloc ?_ _ | refine Ext.drew ?_ | refine Ext.drewN ?_ _ | exact Ext.refl _)))) (by rw [HLn.out]; exact HPj.out) u1 u2 u3), hid ((((HG.out.trans (Grn.of_ext (by (show Ext _ _; repeat (first | with_reducible (refine Hid.out ?_; assumption) | with_reducible exact Ext.refl _ | with_reducible refine Ext.ext ?_ _ | with_reducible refine Ext.alloc ?_ _ | refine Ext.drew ?_ | refine Ext.drewN ?_ _ | exact Ext.refl _))))).setCell _ _).setCell _ _).setCell _ _)⟩
    case measure => simp [intOf]; omega
  have hdj : decide ((j : Int) < 3) = false := decide_eq_false (by omega)
  clear hj hj3
  obtain ⟨L, hL⟩ : ∃ L, L = recL (firstL 3 8 0) P x y z j := ⟨_, rfl⟩
  rw [← hL] at HL
  have HLo := hid (show ∀ a ∈ L, WdOk a by rw [hL]; exact recL_ok f24_ok HX.out HY.out HZ.out j)
  have HLn := hid (show L.length = 376 by rw [hL, recL_len, aw24_len])
  have HSl := hid (show Sl wr 3 wdE (.slice (some ⟨g, 0, none⟩) 376 c8) L from Sl.of_own wdE_len HL.out)
  have hmay := rec_may (t := 3) (c := 8) (b := 0) (x := t) (by rw [HP.out]; omega)
  rw [HP.out] at hmay
  have hlg : ∀ q : Int, mayN 3 8 0 q = true → 0 ≤ q → q < 376 → ∃ u : Wd, logicN 3 8 0 L q = (u, 0) := by
    intro q hm h0 h1
    obtain ⟨u, hu⟩ : ∃ u, L[q.toNat]? = some u := ⟨_, List.getElem?_eq_getElem (by rw [HLn.out]; omega)⟩
    unfold logicN
    rw [if_neg (by rintro (h | h); exact h check24; rw [HLn.out, size24] at h; omega), if_neg (by rw [hm]; simp), hu]
    exact ⟨_, rfl⟩
  obtain ⟨X0, h0⟩ := hlg P hmay.1 (by omega) (by omega)
  obtain ⟨X1, h1⟩ := hlg (P + 1) hmay.2.1 (by omega) (by omega)
  obtain ⟨X2, h2⟩ := hlg (P + 2) hmay.2.2.1 (by omega) (by omega)
  have hask : askN 3 8 0 L t = askV X0.1 X1.1 X2.1 := by
    unfold askN
    rw [if_neg (by rintro (h | h); exact h check24; rw [HLn.out, size24] at h; omega), HP.out, if_neg (by omega), size24, List.take_of_length_le (by rw [HLn.out]; decide), h0, h1, h2]
  have HLg := hid (show ∀ k : Nat, ∀ u, [X0, X1, X2][k]? = some u → logicN 3 8 0 L ((P : Int) + k) = (u, 0) by
    intro k u hu
    match k, hu with
    | 0, hu => cases hu; simpa using h0
    | 1, hu => cases hu; exact h1
    | 2, hu => cases hu; exact h2)
  obtain ⟨⟨q1, ⟨q2, q3⟩, q4⟩, hq⟩ : ∃ q, q = askV X0.1 X1.1 X2.1 := ⟨_, rfl⟩
  obtain ⟨⟨⟨y1, y2⟩, y3, y4⟩, hy⟩ : ∃ q, q = hapV (askV X0.1 X1.1 X2.1) n := ⟨_, rfl⟩
  have HAs := hid (show askN 3 8 0 L t = (q1, (q2, q3), q4) by rw [hask, ← hq])
  have HHp := hid (show hapV (askN 3 8 0 L t) n = ((y1, y2), y3, y4) by rw [hask, ← hy])
  have HRa := hid hq.symm
  have HRh := hid hy.symm
  clear hL HL hlg h0 h1 h2 hask hq hy hmay HG HX HY HZ
  obtain ⟨l0, l1, l2⟩ := HB7w.out.three
  have l4 := HB7w.out.1
  go_wp2_with fail
  refine (asked_any 3 8 0 t L _ HLo.out (by rw [HLn.out]; omega) _ (HS.out.of (HEw.out.trans (by (show Ext _ _; repeat (first | with_reducible (refine Hid.out ?_; assumption) | with_reducible exact Ext.refl _ | with_reducible refine Ext.ext ?_ _ | with_reducible refine Ext.alloc ?_ _ | refine Ext.drew ?_ | refine Ext.drewN ?_ _ | exact Ext.refl _))))) (HSl.out.of wdE_len (by (show Ext _ _; repeat (first | with_reducible (refine Hid.out ?_; assumption) | with_reducible exact Ext.refl _ | with_reducible refine Ext.ext ?_ _ | with_reducible refine Ext.alloc ?_ _ | refine Ext.drew ?_ | refine Ext.drewN ?_ _ | exact Ext.refl _))))).mono ?_
  rintro e w' ⟨rfl, r5, rfl⟩
  rw [HAs.out]
  dsimp only
  go_wp2_with fail
  refine (happened_any 3 8 0 t n L _ HLo.out (by rw [HLn.out]; omega) _ (HS.out.of (HEw.out.trans (by (show Ext _ _; repeat (first | with_reducible (refine Hid.out ?_; assumption) | with_reducible exact Ext.refl _ | with_reducible refine Ext.ext ?_ _ | with_reducible refine Ext.alloc ?_ _ | refine Ext.drew ?_ | refine Ext.drewN ?_ _ | exact Ext.refl _))))) (HSl.out.of wdE_len (by (show Ext _ _; repeat (first | with_reducible (refine Hid.out ?_; assumption) | with_reducible exact Ext.refl _ | with_reducible refine Ext.ext ?_ _ | with_reducible refine Ext.alloc ?_ _ | refine Ext.drew ?_ | refine Ext.drewN ?_ _ | exact Ext.refl _))))).mono ?_
  rintro e w' ⟨rfl, r6, rfl⟩
  rw [HHp.out]
  dsimp only
  have hd1 : decide (t < 1) = false := decide_eq_false (by omega)
  have hd2 : decide (3 < t) = false := decide_eq_false (by omega)
  go_wp2_with fail
  generalize hY : World.alloc _ _ = Y
  have HEY := hid (show Ext wr Y by rw [← hY]; (show Ext _ _; repeat (first | with_reducible (refine Hid.out ?_; assumption) | with_reducible exact Ext.refl _ | with_reducible refine Ext.ext ?_ _ | with_reducible refine Ext.alloc ?_ _ | refine Ext.drew ?_ | refine Ext.drewN ?_ _ | exact Ext.refl _)))
  have HBa := hid (show Blk Y (wr.heap.size + r5.new.size) [.int .i64 q2, .int .i64 q3] by rw [← hY]; (show Blk _ _ _; repeat (first | with_reducible (refine Hid.out ?_; assumption) | with_reducible refine Blk.drew ?_ | with_reducible refine Blk.ext ?_ _ | (with_reducible refine Blk.new _ _ rfl ?_; first | with_reducible rfl | (simp; done)) | with_reducible refine Blk.alloc ?_ _ | with_reducible assumption | with_reducible apply Blk.setE | (with_reducible refine Blk.other' ?_ ?_; first | omega | (simp; omega)) | (show List.set _ _ _ = _; exact rfl) | (show _ < List.length _; simp; done))))
  have HBb := hid (show Blk Y (wr.heap.size + r5.new.size + 1 + r6.new.size) [.int .i64 y1, .int .i64 y2] by rw [← hY]; (show Blk _ _ _; repeat (first | with_reducible (refine Hid.out ?_; assumption) | with_reducible refine Blk.drew ?_ | with_reducible refine Blk.ext ?_ _ | (with_reducible refine Blk.new _ _ rfl ?_; first | with_reducible rfl | (simp; done)) | with_reducible refine Blk.alloc ?_ _ | with_reducible assumption | with_reducible apply Blk.setE | (with_reducible refine Blk.other' ?_ ?_; first | omega | (simp; omega)) | (show List.set _ _ _ = _; exact rfl) | (show _ < List.length _; simp; done))))
  have HBx := hid (show Blk Y (wr.heap.size + r5.new.size + 1 + r6.new.size + 1) (arrV X0 X1 X2 0) by rw [← hY]; (show Blk _ _ _; repeat (first | with_reducible (refine Hid.out ?_; assumption) | with_reducible refine Blk.drew ?_ | with_reducible refine Blk.ext ?_ _ | (with_reducible refine Blk.new _ _ rfl ?_; first | with_reducible rfl | (simp; done)) | with_reducible refine Blk.alloc ?_ _ | with_reducible assumption | with_reducible apply Blk.setE | (with_reducible refine Blk.other' ?_ ?_; first | omega | (simp; omega)) | (show List.set _ _ _ = _; exact rfl) | (show _ < List.length _; simp; done))))
  generalize hnx : wr.heap.size + r5.new.size + 1 + r6.new.size + 1 = nx at *
  generalize hnb : wr.heap.size + r5.new.size + 1 + r6.new.size = nb at *
  generalize hna : wr.heap.size + r5.new.size = na at *
  have hnn : na < nb ∧ nb < nx ∧ wr.heap.size ≤ na := by omega
  have HEYw := hid (HEw.out.trans HEY.out)
  have HB7Y := hid (HB7w.out.of HEY.out)
  have HSY := hid (HSl.out.of wdE_len HEY.out)
  have h7x : n7 < nx := by have := HB7w.out.1; omega
  have hwx : w.heap.size ≤ nx := by have := HEw.out.size; omega
  have hgx : g ≠ nx := by omega
  clear hY l0 l1 l2 l4
  go_loopw [17] (fun i wk => ∃ j : Nat, j ≤ 3 ∧ i = .int .i64 j ∧ Hid (Blk wk nx (arrV X0 X1 X2 j)) ∧ Hid (Grn nx Y wk)) (fun i _ => 3 - (intOf i).toNat)
  case atStart => exact ⟨0, by omega, rfl, HBx, hid Grn.refl⟩
  case round =>
  clear HBx
  obtain ⟨j, hj, rfl, HBx, HG⟩ := hrel
  have HEk := hid (HEYw.out.grn HG.out hwx)
  have HB7k := hid (HB7Y.out.grn HG.out (by omega))
  have HSk := hid (HSY.out.grn wdE_len HG.out hgx)
  by_cases hj3 : j < 3
  · have hjj : (j : Int) < 3 := by omega
    obtain ⟨u, hu⟩ : ∃ u, [X0, X1, X2][j]? = some u := ⟨_, List.getElem?_eq_getElem (by show j < 3; exact hj3)⟩
    have HA := hid (arrV_succ X0 X1 X2 u j hu)
    have HLj := hid (HLg.out j u hu)
    obtain ⟨u1, u2, u3⟩ := u
    dsimp only at HA
    obtain ⟨l0, l1, l2⟩ := HB7k.out.three
    have l4 := HB7k.out.1
    have hal : (arrV X0 X1 X2 j).length = 9 := arrV_len _ _ _ _
    have HAl := hid hal
    have z0 := HBx.out.2.2 (j * 3) _ (List.getElem?_eq_getElem (by rw [hal]; omega))
    have z1 := HBx.out.2.2 (j * 3 + 1) _ (List.getElem?_eq_getElem (by rw [hal]; omega))
    have z2 := HBx.out.2.2 (j * 3 + 2) _ (List.getElem?_eq_getElem (by rw [hal]; omega))
    have f0 := HBx.out.2.1 (j * 3)
    have f1 := HBx.out.2.1 (j * 3 + 1)
    have f2 := HBx.out.2.1 (j * 3 + 2)
    have f4 := HBx.out.1
    have t3 : IntKind.i64.wrap ((P : Int) + (j : Int)) = (P : Int) + (j : Int) := IntWalk.i64_in _ (by omega)
    clear hu
    go_upto_region 19 with fail
    refine wp_region_held_drew (S := fun w' => (w'.cell? ⟨n7, 0, none⟩ = some (.int .i64 3) ∧ w'.cell? ⟨n7, 1, none⟩ = some (.int .i64 8) ∧ w'.cell? ⟨n7, 2, none⟩ = some (.int .i64 0))) (by kernel_rfl) (by exact Blk.three (show Blk _ n7 [.int .i64 3, .int .i64 8, .int .i64 0] by (show Blk _ _ _; repeat (first | with_reducible (refine Hid.out ?_; assumption) | with_reducible apply Blk.drew | with_reducible apply Blk.ext | ((with_reducible refine Blk.new _ _ rfl ?_); first | with_reducible rfl | focus (simp; done)) | ((with_reducible apply Blk.newE); first | with_reducible rfl | focus (simp; done)) | with_reducible apply Blk.alloc | with_reducible assumption | with_reducible apply Blk.setE | ((with_reducible refine Blk.other' ?_ ?_); first | omega | (simp; omega)) | (show List.set _ _ _ = _; exact rfl) | focus (show _ < List.length _; simp; done))))) (fun hHeld => ?_)
    refine take_met 0 (oi := ⟨_, _, _, _, _, _⟩) (v := ?_) (by kernel_rfl) rfl (by rfl) (fun _ _ _ h => h) (by assumption) ?_ ?_
    rotate_left 1
    · intro w hSw
      try dsimp only at hSw
      go_simp
      try with_reducible rfl
    (try simp only [Act.put, List.setIfInBounds_toArray, List.set_cons_zero, List.set_cons_succ])
    refine take_met 1 (oi := ⟨_, _, _, _, _, _⟩) (v := ?_) (by kernel_rfl) rfl (by rfl) (fun _ _ _ h => h) (by assumption) ?_ ?_
    rotate_left 1
    · intro w hSw
      try dsimp only at hSw
      go_simp
      try with_reducible rfl
    (try simp only [Act.put, List.setIfInBounds_toArray, List.set_cons_zero, List.set_cons_succ])
    refine take_met 2 (oi := ⟨_, _, _, _, _, _⟩) (v := ?_) (by kernel_rfl) rfl (by rfl) (fun _ _ _ h => h) (by assumption) ?_ ?_
    rotate_left 1
    · intro w hSw
      try dsimp only at hSw
      go_simp
      try with_reducible rfl
    (try simp only [Act.put, List.setIfInBounds_toArray, List.set_cons_zero, List.set_cons_succ])
    refine take_met 3 (oi := ⟨_, _, _, _, _, _⟩) (v := ?_) (by kernel_rfl) rfl (by rfl) (fun _ _ _ h => h) (by assumption) ?_ ?_
    rotate_left 1
    · intro w hSw
      try dsimp only at hSw
      go_simp
      try with_reducible rfl
    (try simp only [Act.put, List.setIfInBounds_toArray, List.set_cons_zero, List.set_cons_succ])
    refine take_met 4 (oi := ⟨_, _, _, _, _, _⟩) (v := ?_) (by kernel_rfl) rfl (by rfl) (fun _ _ _ h => h) (by assumption) ?_ ?_
    rotate_left 1
    · intro w hSw
      try dsimp only at hSw
      go_simp
      try with_reducible rfl
    (try simp only [Act.put, List.setIfInBounds_toArray, List.set_cons_zero, List.set_cons_succ])
    refine take_met 6 (oi := ⟨_, _, _, _, _, _⟩) (v := ?_) (by kernel_rfl) rfl (by rfl) (fun _ _ _ h => h) (by assumption) ?_ ?_
    rotate_left 1
    · intro w hSw
      try dsimp only at hSw
      go_simp
      try with_reducible rfl
    (try simp only [Act.put, List.setIfInBounds_toArray, List.set_cons_zero, List.set_cons_succ])
    refine take_only 5 (oi := ⟨_, _, _, _, _, _⟩) (by kernel_rfl) rfl (fun K hK => ?_)
    go_simp
    first
      | (go_at_call 12; refine (record_any 3 8 0 t _ (HS.out.of (HEk.out.trans (by (show Ext _ _; repeat (first | with_reducible (refine Hid.out ?_; assumption) | with_reducible exact Ext.refl _ | with_reducible refine Ext.ext ?_ _ | with_reducible refine Ext.alloc ?_ _ | refine Ext.drew ?_ | refine Ext.drewN ?_ _ | exact Ext.refl _)))))).mono ?_; rintro e w' ⟨rfl, r7, rfl⟩; rw [HP2.out])
    have hOld := hHeld
    clear hHeld
    refine hK.out _ _ (by exact Blk.three (show Blk _ n7 [.int .i64 3, .int .i64 8, .int .i64 0] by (show Blk _ _ _; repeat (first | with_reducible (refine Hid.out ?_; assumption) | with_reducible apply Blk.drew | with_reducible apply Blk.ext | ((with_reducible refine Blk.new _ _ rfl ?_); first | with_reducible rfl | focus (simp; done)) | ((with_reducible apply Blk.newE); first | with_reducible rfl | focus (simp; done)) | with_reducible apply Blk.alloc | with_reducible assumption | with_reducible apply Blk.setE | ((with_reducible refine Blk.other' ?_ ?_); first | omega | (simp; omega)) | (show List.set _ _ _ = _; exact rfl) | focus (show _ < List.length _; simp; done))))) (fun hHeld => ?_)
    clear hOld hK K
    (try simp only [Act.put, List.setIfInBounds_toArray, List.set_cons_zero, List.set_cons_succ])
    refine take_met 7 (oi := ⟨_, _, _, _, _, _⟩) (v := ?_) (by kernel_rfl) rfl (by rfl) (fun _ _ _ h => h) (by assumption) ?_ ?_
    rotate_left 1
    · intro w hSw
      try dsimp only at hSw
      go_simp
      try with_reducible rfl
    (try simp only [Act.put, List.setIfInBounds_toArray, List.set_cons_zero, List.set_cons_succ])
    refine take_only 8 (oi := ⟨_, _, _, _, _, _⟩) (by kernel_rfl) rfl (fun K hK => ?_)
    go_simp
    first
      | (go_at_call 19; refine (logical_any 3 8 0 ((P : Int) + j) (by omega) (by omega) L _ HLo.out _ (HS.out.of (HEk.out.trans (by (show Ext _ _; repeat (first | with_reducible (refine Hid.out ?_; assumption) | with_reducible exact Ext.refl _ | with_reducible refine Ext.ext ?_ _ | with_reducible refine Ext.alloc ?_ _ | refine Ext.drew ?_ | refine Ext.drewN ?_ _ | exact Ext.refl _))))) (HSk.out.of wdE_len (by (show Ext _ _; repeat (first | with_reducible (refine Hid.out ?_; assumption) | with_reducible exact Ext.refl _ | with_reducible refine Ext.ext ?_ _ | with_reducible refine Ext.alloc ?_ _ | refine Ext.drew ?_ | refine Ext.drewN ?_ _ | exact Ext.refl _))))).mono ?_; rintro y w' ⟨rfl, r8, rfl⟩; rw [HLj.out]; dsimp only)
    have hOld := hHeld
    clear hHeld
    refine hK.out _ _ (by exact Blk.three (show Blk _ n7 [.int .i64 3, .int .i64 8, .int .i64 0] by (show Blk _ _ _; repeat (first | with_reducible (refine Hid.out ?_; assumption) | with_reducible apply Blk.drew | with_reducible apply Blk.ext | ((with_reducible refine Blk.new _ _ rfl ?_); first | with_reducible rfl | focus (simp; done)) | ((with_reducible apply Blk.newE); first | with_reducible rfl | focus (simp; done)) | with_reducible apply Blk.alloc | with_reducible assumption | with_reducible apply Blk.setE | ((with_reducible refine Blk.other' ?_ ?_); first | omega | (simp; omega)) | (show List.set _ _ _ = _; exact rfl) | focus (show _ < List.length _; simp; done))))) (fun hHeld => ?_)
    clear hOld hK K
    (try simp only [Act.put, List.setIfInBounds_toArray, List.set_cons_zero, List.set_cons_succ])
    refine take_met 9 (oi := ⟨_, _, _, _, _, _⟩) (v := ?_) (by kernel_rfl) rfl (by rfl) (fun _ _ _ h => h) (by assumption) ?_ ?_
    rotate_left 1
    · intro w hSw
      try dsimp only at hSw
      go_simp
      try with_reducible rfl
    (try simp only [Act.put, List.setIfInBounds_toArray, List.set_cons_zero, List.set_cons_succ])
    refine take_met 10 (oi := ⟨_, _, _, _, _, _⟩) (v := ?_) (by kernel_rfl) rfl (by rfl) (fun _ _ _ h => h) (by assumption) ?_ ?_
    rotate_left 1
    · intro w hSw
      try dsimp only at hSw
      go_simp
      try with_reducible rfl
    (try simp only [Act.put, List.setIfInBounds_toArray, List.set_cons_zero, List.set_cons_succ])
    refine take_met 11 (oi := ⟨_, _, _, _, _, _⟩) (v := ?_) (by kernel_rfl) rfl (by rfl) (fun _ _ _ h => h) (by assumption) ?_ ?_
    rotate_left 1
    · intro w hSw
      try dsimp only at hSw
      go_simp
      try with_reducible rfl
    (try simp only [Act.put, List.setIfInBounds_toArray, List.set_cons_zero, List.set_cons_succ])
    refine take_met 12 (oi := ⟨_, _, _, _, _, _⟩) (v := ?_) (by kernel_rfl) rfl (by rfl) (fun _ _ _ h => h) (by assumption) ?_ ?_
    rotate_left 1
    · intro w hSw
      try dsimp only at hSw
      go_simp
      try with_reducible rfl
    (try simp only [Act.put, List.setIfInBounds_toArray, List.set_cons_zero, List.set_cons_succ])
    refine take_only 13 (oi := ⟨_, _, _, _, _, _⟩) (by kernel_rfl) rfl (fun K hK => ?_)
    go_simp
    have hOld := hHeld
    clear hHeld
    refine hK.out _ _ (by exact Blk.three (show Blk _ n7 [.int .i64 3, .int .i64 8, .int .i64 0] by (show Blk _ _ _; repeat (first | with_reducible (refine Hid.out ?_; assumption) | with_reducible apply Blk.drew | with_reducible apply Blk.ext | ((with_reducible refine Blk.new _ _ rfl ?_); first | with_reducible rfl | focus (simp; done)) | ((with_reducible apply Blk.newE); first | with_reducible rfl | focus (simp; done)) | with_reducible apply Blk.alloc | with_reducible assumption | with_reducible apply Blk.setE | ((with_reducible refine Blk.other' ?_ ?_); first | omega | (simp; omega)) | (show List.set _ _ _ = _; exact rfl) | focus (show _ < List.length _; simp; done))))) (fun hHeld => ?_)
    clear hOld hK K
    (try simp only [Act.put, List.setIfInBounds_toArray, List.set_cons_zero, List.set_cons_succ])
    refine wpAnyH_done (by kernel_rfl) ?_ _
    go_wp2_with fail
    go_roundw
    case rel => exact ⟨j + 1, by omega, by go_num, hid (by rw [← HA.out]; exact ((((HBx.out.of (by (show Ext _ _; repeat (first | with_reducible (refine Hid.out ?_; assumption) | with_reducible exact Ext.refl _ | with_reducible refine Ext.ext ?_ _ | with_reducible refine Ext.alloc ?_ _ | refine Ext.drew ?_ | refine Ext.drewN ?_ _ | exact Ext.refl _)))).set (j * 3) (by rw [HAl.out]; omega) _).set (j * 3 + 1) (by simp [HAl.out]; omega) _).set (j * 3 + 2) (by simp [HAl.out]; omega) _)), hid ((((HG.out.trans (Grn.of_ext (by (show Ext _ _; repeat (first | with_reducible (refine Hid.out ?_; assumption) | with_reducible exact Ext.refl _ | with_reducible refine Ext.ext ?_ _ | with_reducible refine Ext.alloc ?_ _ | refine Ext.drew ?_ | refine Ext.drewN ?_ _ | exact Ext.refl _))))).setCell _ _).setCell _ _).setCell _ _)⟩
    case measure => simp [intOf]; omega
  obtain rfl : j = 3 := by omega
  obtain ⟨a1, a2, a3⟩ := X0
  obtain ⟨b1, b2, b3⟩ := X1
  obtain ⟨c1, c2, c3⟩ := X2
  have x0 := HBx.out.2.2 0 _ rfl
  have x1 := HBx.out.2.2 1 _ rfl
  have x2 := HBx.out.2.2 2 _ rfl
  have x3 := HBx.out.2.2 3 _ rfl
  have x4 := HBx.out.2.2 4 _ rfl
  have x5 := HBx.out.2.2 5 _ rfl
  have x6 := HBx.out.2.2 6 _ rfl
  have x7 := HBx.out.2.2 7 _ rfl
  have x8 := HBx.out.2.2 8 _ rfl
  have x9 := HBx.out.1
  have d0 := (HBa.out.grn HG.out (by omega)).2.2 0 _ rfl
  have d1 := (HBa.out.grn HG.out (by omega)).2.2 1 _ rfl
  have d4 := (HBa.out.grn HG.out (by omega)).1
  have e0 := (HBb.out.grn HG.out (by omega)).2.2 0 _ rfl
  have e1 := (HBb.out.grn HG.out (by omega)).2.2 1 _ rfl
  have e4 := (HBb.out.grn HG.out (by omega)).1
  go_wp2_with fail
  refine (rasked_any (a1, a2, a3) (b1, b2, b3) (c1, c2, c3) _).mono ?_
  rintro e w' ⟨rfl, r7, rfl⟩
  rw [HRa.out]
  dsimp only
  go_wp2_with fail
  refine (rhap_any (a1, a2, a3) (b1, b2, b3) (c1, c2, c3) n _).mono ?_
  rintro e w' ⟨rfl, r8, rfl⟩
  rw [HRh.out]
  dsimp only
  go_wp2_with fail
  go_ret
  exact ⟨rfl, HEk.out.trans (by (show Ext _ _; repeat (first | with_reducible (refine Hid.out ?_; assumption) | with_reducible exact Ext.refl _ | with_reducible refine Ext.ext ?_ _ | with_reducible refine Ext.alloc ?_ _ | refine Ext.drew ?_ | refine Ext.drewN ?_ _ | exact Ext.refl _)))⟩

end Go.Proofs.YtlijgheghodfeaaDoor
