/- The walk of law 20's Words: it returns words of the layout's size, or says that it cannot. -/
import Derived.Test.YtfijnpfhffhffaaDoorC20B
import Derived.Test.YtfijnpfhffhffaaDoorRedL
import Derived.Test.YtfijnpfhffhffaaDoorRedC
namespace Go.Proofs.YtfijnpfhffhffaaDoor
set_option linter.unusedSimpArgs false
set_option linter.unusedVariables false
open Go.RowKit

/-- Plain: an image of law 20: as long as its layout says, of words in range. -/
def Im (M : List Wd) : Prop := M.length = 416 ∧ ∀ a ∈ M, WdOk a
theorem Im.set {M : List Wd} (h : Im M) (i : Nat) {x : Wd} (hx : WdOk x) : Im (M.set i x) := ⟨by rw [List.length_set]; exact h.1, set_ok h.2 hx i⟩
theorem first31 : (firstL 3 8 1).length = 416 := by kernel_rfl
theorem Im.first : Im (firstL 3 8 1) := ⟨first31, firstL_ok _ _ _⟩
theorem slot31 (q : Nat) (hq : q < 3) : atN 3 8 1 4 (wrap64 ((q : Int) + 1 - 1)) 0 = ((64 + q * 104 : Nat) : Int) := by
  have h : q = 0 ∨ q = 1 ∨ q = 2 := by omega
  rcases h with rfl | rfl | rfl
  · exact (show atN 3 8 1 4 (wrap64 0) 0 = 64 by kernel_rfl)
  · exact (show atN 3 8 1 4 (wrap64 1) 0 = 168 by kernel_rfl)
  · exact (show atN 3 8 1 4 (wrap64 2) 0 = 272 by kernel_rfl)
theorem few20_len {sw : List Swp} (h : few20 sw = true) : sw.length ≤ 3 ∧ ∀ a ∈ sw, a.2.length ≤ 6 := by
  unfold few20 at h
  rw [Bool.and_eq_true, decide_eq_true_eq] at h
  refine ⟨h.2, fun a ha => ?_⟩
  rw [List.take_of_length_le (by omega)] at h
  have := List.all_eq_true.1 h.1 a ha
  simpa using this
/-- What law 20's Words leaves. -/
def W20Post (w : World) (y : Ending) (w' : World) : Prop := (∃ r, w' = ext w r) ∧ (y = .returned (.tuple #[.slice none 0 0, .bool false]) ∨ ∃ v L, y = .returned (.tuple #[v, .bool true]) ∧ Im L ∧ Ws w' w.heap.size v L)

section
variable (a0 a1 a2 a3 a4 a5 b0 b1 b2 b3 b4 b5 : Int)
set_option maxRecDepth 100000 in
set_option maxHeartbeats 16000000 in
theorem words20_any (hva : ∀ a ∈ [a0, a1, a2, a3, a4, a5], -128 ≤ a ∧ a ≤ 127) (hvb : ∀ a ∈ [b0, b1, b2, b3, b4, b5], 0 ≤ a ∧ a ≤ 255) (sv : Value) (sw : List Swp) (w : World) (hs : Szs w) (hv : Sl w 1 swE sv sw) (hk : ∀ a ∈ sw, SwOk w a) (hf : few20 sw = true) :
    Calls Tryd.prog 27 #[.agg #[.int .i8 a0, .int .i8 a1, .int .i8 a2, .int .i8 a3, .int .i8 a4, .int .i8 a5, .int .u8 b0, .int .u8 b1, .int .u8 b2, .int .u8 b3, .int .u8 b4, .int .u8 b5, sv]] w fun y w' => W20Post w y w' := by
  have HS := hid hs
  have HV := hid hv
  have HK := hid hk
  have HA := hid hva
  have HB := hid hvb
  obtain ⟨hf1, hf2⟩ := few20_len hf
  have HF := hid hf2
  obtain ⟨sa, sc, rfl, hm, hq⟩ := hv
  clear hm hq hs hk hva hvb hf hf2
  go_enter Tryd.func27, Tryd.ntmps27
  go_wp2_with fail
  refine (plan20_any _).mono ?_
  rintro e w' ⟨rfl, r1, rfl⟩
  go_wp2_with fail
  refine (first_any 3 8 1 _ (HS.out.of (by (show Ext _ _; repeat (first | with_reducible (refine Hid.out ?_; assumption) | with_reducible exact Ext.refl _ | with_reducible refine Ext.ext ?_ _ | with_reducible refine Ext.alloc ?_ _ | refine Ext.drew ?_ | refine Ext.drewN ?_ _ | exact Ext.refl _))))).mono ?_
  rintro e w' ⟨v5, rfl, ⟨r2, rfl⟩, hv5⟩
  obtain ⟨g, c5, rfl, hgl, hgs⟩ := Ws.open hv5 (by rw [first31]; omega)
  rw [first31] at hv5 ⊢
  go_wp2_with fail
  refine (size_any 3 8 1 _ (HS.out.of (by (show Ext _ _; repeat (first | with_reducible (refine Hid.out ?_; assumption) | with_reducible exact Ext.refl _ | with_reducible refine Ext.ext ?_ _ | with_reducible refine Ext.alloc ?_ _ | refine Ext.drew ?_ | refine Ext.drewN ?_ _ | exact Ext.refl _))))).mono ?_
  rintro e w' ⟨rfl, r3, rfl⟩
  rw [size31]
  go_wp2_with fail
  generalize hU : ext _ r3 = U at *
  have HEU := hid (show Ext w U by rw [← hU]; (show Ext _ _; repeat (first | with_reducible (refine Hid.out ?_; assumption) | with_reducible exact Ext.refl _ | with_reducible refine Ext.ext ?_ _ | with_reducible refine Ext.alloc ?_ _ | refine Ext.drew ?_ | refine Ext.drewN ?_ _ | exact Ext.refl _)))
  have HBc := hid (show Blk U w.heap.size [.int .i8 a0, .int .i8 a1, .int .i8 a2, .int .i8 a3, .int .i8 a4, .int .i8 a5, .int .u8 b0, .int .u8 b1, .int .u8 b2, .int .u8 b3, .int .u8 b4, .int .u8 b5, .slice sa sw.length sc] by rw [← hU]; (show Blk _ _ _; repeat (first | with_reducible (refine Hid.out ?_; assumption) | with_reducible refine Blk.drew ?_ | with_reducible refine Blk.ext ?_ _ | (with_reducible refine Blk.new _ _ rfl ?_; first | with_reducible rfl | (simp; done)) | with_reducible refine Blk.alloc ?_ _ | with_reducible assumption | with_reducible apply Blk.setE | (with_reducible refine Blk.other' ?_ ?_; first | omega | (simp; omega)) | (show List.set _ _ _ = _; exact rfl) | (show _ < List.length _; simp; done))))
  have HBl := hid (show Blk U (w.heap.size + 1 + r1.new.size) [.int .i64 3, .int .i64 8, .int .i64 1] by rw [← hU]; (show Blk _ _ _; repeat (first | with_reducible (refine Hid.out ?_; assumption) | with_reducible refine Blk.drew ?_ | with_reducible refine Blk.ext ?_ _ | (with_reducible refine Blk.new _ _ rfl ?_; first | with_reducible rfl | (simp; done)) | with_reducible refine Blk.alloc ?_ _ | with_reducible assumption | with_reducible apply Blk.setE | (with_reducible refine Blk.other' ?_ ?_; first | omega | (simp; omega)) | (show List.set _ _ _ = _; exact rfl) | (show _ < List.length _; simp; done))))
  have HLU := hid (show Ws U w.heap.size (.slice (some ⟨g, 0, none⟩) 416 c5) (firstL 3 8 1) from by
    have h := Own.mono hv5 (show w.heap.size ≤ _ by simp; omega)
    rw [← hU]
    exact Ws.of h (by (show Ext _ _; repeat (first | with_reducible (refine Hid.out ?_; assumption) | with_reducible exact Ext.refl _ | with_reducible refine Ext.ext ?_ _ | with_reducible refine Ext.alloc ?_ _ | refine Ext.drew ?_ | refine Ext.drewN ?_ _ | exact Ext.refl _))))
  have hgl2 : w.heap.size + 1 + r1.new.size < g := by simp at hgl; omega
  have hgU : g < U.heap.size := by rw [← hU]; simp at hgs ⊢; omega
  generalize hnl : w.heap.size + 1 + r1.new.size = nl at *
  have hwl : w.heap.size < nl := by omega
  clear hU hv5 hgl hgs hnl
  go_loopw [6] (fun i wr => ∃ (j : Nat) (M : List Wd), j ≤ 6 ∧ i = .int .i64 j ∧ Hid (Im M) ∧ Hid (Ws wr w.heap.size (.slice (some ⟨g, 0, none⟩) 416 c5) M) ∧ Hid (Grn g U wr)) (fun i _ => 6 - (intOf i).toNat)
  case atStart => exact ⟨0, _, by omega, rfl, hid Im.first, HLU, hid Grn.refl⟩
  case round =>
  clear HLU
  obtain ⟨j, M, hj, rfl, HI, HL, HG⟩ := hrel
  have hUs := HEU.out.size
  have HEw := hid (HEU.out.grn HG.out (by omega))
  have HBcw := hid (HBc.out.grn HG.out (by omega))
  have HBlw := hid (HBl.out.grn HG.out (by omega))
  have hgw : g < wr.heap.size := Nat.lt_of_lt_of_le hgU HG.out.size
  obtain ⟨l0, l1, l2⟩ := HBlw.out.three
  have l4 := HBlw.out.1
  have c0 := HBcw.out.2.2 0 _ rfl
  have c1 := HBcw.out.2.2 1 _ rfl
  have c2 := HBcw.out.2.2 2 _ rfl
  have c3 := HBcw.out.2.2 3 _ rfl
  have c4 := HBcw.out.2.2 4 _ rfl
  have c5' := HBcw.out.2.2 5 _ rfl
  have c6 := HBcw.out.2.2 6 _ rfl
  have c7 := HBcw.out.2.2 7 _ rfl
  have c8 := HBcw.out.2.2 8 _ rfl
  have c9 := HBcw.out.2.2 9 _ rfl
  have c10 := HBcw.out.2.2 10 _ rfl
  have c11 := HBcw.out.2.2 11 _ rfl
  have c12 := HBcw.out.2.2 12 _ rfl
  have c13 := HBcw.out.1
  have hgn : w.heap.size ≠ g := by omega
  have hgn2 : nl ≠ g := by omega
  by_cases hj6 : j < 6
  · have hjj : (j : Int) < 6 := by omega
    obtain ⟨u, hu⟩ : ∃ u, [a0, a1, a2, a3, a4, a5][j]? = some u := ⟨_, List.getElem?_eq_getElem (by show j < 6; exact hj6)⟩
    obtain ⟨t, ht⟩ : ∃ u, [b0, b1, b2, b3, b4, b5][j]? = some u := ⟨_, List.getElem?_eq_getElem (by show j < 6; exact hj6)⟩
    have hub := HA.out u (List.mem_of_getElem? hu)
    have htb := HB.out t (List.mem_of_getElem? ht)
    have HU := hid hu
    have HT := hid ht
    have HCl := hid (cell31 j (by omega))
    have hML := HI.out.1
    obtain ⟨⟨y1, y2, y3⟩, hy⟩ : ∃ y, M[56 + j]? = some y := ⟨_, List.getElem?_eq_getElem (by rw [hML]; omega)⟩
    obtain ⟨m0, m1, m2⟩ := Ws.cells HL.out hy
    have f0 := Ws.free HL.out ((56 + j) * 3)
    have f1 := Ws.free HL.out ((56 + j) * 3 + 1)
    have f2 := Ws.free HL.out ((56 + j) * 3 + 2)
    have t0 : (0 : Int) ≤ 56 + (j : Int) := by omega
    have t1 : (56 + (j : Int)).toNat = 56 + j := by omega
    have t2 : 56 + (j : Int) < 416 := by omega
    have HML := hid hML
    clear hu ht hy hML
    go_upto_region 8 with fail
    refine wp_region_held_drew (S := fun w' => ((w'.cell? ⟨w.heap.size, 0, none⟩ = some (.int .i8 a0) ∧ w'.cell? ⟨w.heap.size, 1, none⟩ = some (.int .i8 a1) ∧ w'.cell? ⟨w.heap.size, 2, none⟩ = some (.int .i8 a2) ∧ w'.cell? ⟨w.heap.size, 3, none⟩ = some (.int .i8 a3) ∧ w'.cell? ⟨w.heap.size, 4, none⟩ = some (.int .i8 a4) ∧ w'.cell? ⟨w.heap.size, 5, none⟩ = some (.int .i8 a5)) ∧ (w'.cell? ⟨w.heap.size, 6, none⟩ = some (.int .u8 b0) ∧ w'.cell? ⟨w.heap.size, 7, none⟩ = some (.int .u8 b1) ∧ w'.cell? ⟨w.heap.size, 8, none⟩ = some (.int .u8 b2) ∧ w'.cell? ⟨w.heap.size, 9, none⟩ = some (.int .u8 b3) ∧ w'.cell? ⟨w.heap.size, 10, none⟩ = some (.int .u8 b4) ∧ w'.cell? ⟨w.heap.size, 11, none⟩ = some (.int .u8 b5)) ∧ w'.cell? ⟨w.heap.size, 12, none⟩ = some (.slice sa sw.length sc)) ∧ (w'.cell? ⟨nl, 0, none⟩ = some (.int .i64 3) ∧ w'.cell? ⟨nl, 1, none⟩ = some (.int .i64 8) ∧ w'.cell? ⟨nl, 2, none⟩ = some (.int .i64 1))) (by kernel_rfl) (by exact ⟨⟨⟨(show Grn g wr _ from by (show Grn _ _ _; repeat (first | with_reducible exact Grn.refl | with_reducible refine Grn.setCell ?_ _ _ | with_reducible refine Grn.ext ?_ _ | with_reducible refine Grn.alloc ?_ _ | with_reducible refine Grn.drew ?_))).cell hgn c0, (show Grn g wr _ from by (show Grn _ _ _; repeat (first | with_reducible exact Grn.refl | with_reducible refine Grn.setCell ?_ _ _ | with_reducible refine Grn.ext ?_ _ | with_reducible refine Grn.alloc ?_ _ | with_reducible refine Grn.drew ?_))).cell hgn c1, (show Grn g wr _ from by (show Grn _ _ _; repeat (first | with_reducible exact Grn.refl | with_reducible refine Grn.setCell ?_ _ _ | with_reducible refine Grn.ext ?_ _ | with_reducible refine Grn.alloc ?_ _ | with_reducible refine Grn.drew ?_))).cell hgn c2, (show Grn g wr _ from by (show Grn _ _ _; repeat (first | with_reducible exact Grn.refl | with_reducible refine Grn.setCell ?_ _ _ | with_reducible refine Grn.ext ?_ _ | with_reducible refine Grn.alloc ?_ _ | with_reducible refine Grn.drew ?_))).cell hgn c3, (show Grn g wr _ from by (show Grn _ _ _; repeat (first | with_reducible exact Grn.refl | with_reducible refine Grn.setCell ?_ _ _ | with_reducible refine Grn.ext ?_ _ | with_reducible refine Grn.alloc ?_ _ | with_reducible refine Grn.drew ?_))).cell hgn c4, (show Grn g wr _ from by (show Grn _ _ _; repeat (first | with_reducible exact Grn.refl | with_reducible refine Grn.setCell ?_ _ _ | with_reducible refine Grn.ext ?_ _ | with_reducible refine Grn.alloc ?_ _ | with_reducible refine Grn.drew ?_))).cell hgn c5'⟩, ⟨(show Grn g wr _ from by (show Grn _ _ _; repeat (first | with_reducible exact Grn.refl | with_reducible refine Grn.setCell ?_ _ _ | with_reducible refine Grn.ext ?_ _ | with_reducible refine Grn.alloc ?_ _ | with_reducible refine Grn.drew ?_))).cell hgn c6, (show Grn g wr _ from by (show Grn _ _ _; repeat (first | with_reducible exact Grn.refl | with_reducible refine Grn.setCell ?_ _ _ | with_reducible refine Grn.ext ?_ _ | with_reducible refine Grn.alloc ?_ _ | with_reducible refine Grn.drew ?_))).cell hgn c7, (show Grn g wr _ from by (show Grn _ _ _; repeat (first | with_reducible exact Grn.refl | with_reducible refine Grn.setCell ?_ _ _ | with_reducible refine Grn.ext ?_ _ | with_reducible refine Grn.alloc ?_ _ | with_reducible refine Grn.drew ?_))).cell hgn c8, (show Grn g wr _ from by (show Grn _ _ _; repeat (first | with_reducible exact Grn.refl | with_reducible refine Grn.setCell ?_ _ _ | with_reducible refine Grn.ext ?_ _ | with_reducible refine Grn.alloc ?_ _ | with_reducible refine Grn.drew ?_))).cell hgn c9, (show Grn g wr _ from by (show Grn _ _ _; repeat (first | with_reducible exact Grn.refl | with_reducible refine Grn.setCell ?_ _ _ | with_reducible refine Grn.ext ?_ _ | with_reducible refine Grn.alloc ?_ _ | with_reducible refine Grn.drew ?_))).cell hgn c10, (show Grn g wr _ from by (show Grn _ _ _; repeat (first | with_reducible exact Grn.refl | with_reducible refine Grn.setCell ?_ _ _ | with_reducible refine Grn.ext ?_ _ | with_reducible refine Grn.alloc ?_ _ | with_reducible refine Grn.drew ?_))).cell hgn c11⟩, (show Grn g wr _ from by (show Grn _ _ _; repeat (first | with_reducible exact Grn.refl | with_reducible refine Grn.setCell ?_ _ _ | with_reducible refine Grn.ext ?_ _ | with_reducible refine Grn.alloc ?_ _ | with_reducible refine Grn.drew ?_))).cell hgn c12⟩, (show Grn g wr _ from by (show Grn _ _ _; repeat (first | with_reducible exact Grn.refl | with_reducible refine Grn.setCell ?_ _ _ | with_reducible refine Grn.ext ?_ _ | with_reducible refine Grn.alloc ?_ _ | with_reducible refine Grn.drew ?_))).cell hgn2 l0, (show Grn g wr _ from by (show Grn _ _ _; repeat (first | with_reducible exact Grn.refl | with_reducible refine Grn.setCell ?_ _ _ | with_reducible refine Grn.ext ?_ _ | with_reducible refine Grn.alloc ?_ _ | with_reducible refine Grn.drew ?_))).cell hgn2 l1, (show Grn g wr _ from by (show Grn _ _ _; repeat (first | with_reducible exact Grn.refl | with_reducible refine Grn.setCell ?_ _ _ | with_reducible refine Grn.ext ?_ _ | with_reducible refine Grn.alloc ?_ _ | with_reducible refine Grn.drew ?_))).cell hgn2 l2⟩) (fun hHeld => ?_)
    refine take_met 0 (oi := ⟨_, _, _, _, _, _⟩) (v := ?_) (by kernel_rfl) rfl (by rfl) (fun _ _ _ h => h) (by assumption) ?_ ?_
    rotate_left 1
    · intro w hSw
      try dsimp only at hSw
      go_simp
      try with_reducible rfl
    (try simp only [Act.put, List.setIfInBounds_toArray, List.set_cons_zero, List.set_cons_succ])
    refine take_met 1 (oi := ⟨_, _, _, _, _, _⟩) (v := ?_) (by kernel_rfl) rfl (by rfl) (fun _ _ _ h => h) (by assumption) ?_ ?_
    rotate_left 1
    · intro w hSw
      try dsimp only at hSw
      go_simp
      try with_reducible rfl
    (try simp only [Act.put, List.setIfInBounds_toArray, List.set_cons_zero, List.set_cons_succ])
    refine take_met 2 (oi := ⟨_, _, _, _, _, _⟩) (v := ?_) (by kernel_rfl) rfl (by rfl) (fun _ _ _ h => h) (by assumption) ?_ ?_
    rotate_left 1
    · intro w hSw
      try dsimp only at hSw
      go_simp
      try with_reducible rfl
    (try simp only [Act.put, List.setIfInBounds_toArray, List.set_cons_zero, List.set_cons_succ])
    refine take_met 4 (oi := ⟨_, _, _, _, _, _⟩) (v := ?_) (by kernel_rfl) rfl (by rfl) (fun _ _ _ h => h) (by assumption) ?_ ?_
    rotate_left 1
    · intro w hSw
      try dsimp only at hSw
      go_simp
      try with_reducible rfl
    (try simp only [Act.put, List.setIfInBounds_toArray, List.set_cons_zero, List.set_cons_succ])
    refine take_met 5 (oi := ⟨_, _, _, _, _, _⟩) (v := ?_) (by kernel_rfl) rfl (by rfl) (fun _ _ _ h => h) (by assumption) ?_ ?_
    rotate_left 1
    · intro w hSw
      try dsimp only at hSw
      go_simp
      try with_reducible rfl
    (try simp only [Act.put, List.setIfInBounds_toArray, List.set_cons_zero, List.set_cons_succ])
    refine take_only 3 (oi := ⟨_, _, _, _, _, _⟩) (by kernel_rfl) rfl (fun K hK => ?_)
    go_simp
    first
      | (go_at_call 24; refine (cell_any 3 8 1 j _ (HS.out.of (HEw.out.trans (by (show Ext _ _; repeat (first | with_reducible (refine Hid.out ?_; assumption) | with_reducible exact Ext.refl _ | with_reducible refine Ext.ext ?_ _ | with_reducible refine Ext.alloc ?_ _ | refine Ext.drew ?_ | refine Ext.drewN ?_ _ | exact Ext.refl _)))))).mono ?_; rintro e w' ⟨rfl, r4, rfl⟩; rw [HCl.out])
    have hOld := hHeld
    clear hHeld
    refine hK.out _ _ (by exact ⟨⟨⟨(show Grn g wr _ from by (show Grn _ _ _; repeat (first | with_reducible exact Grn.refl | with_reducible refine Grn.setCell ?_ _ _ | with_reducible refine Grn.ext ?_ _ | with_reducible refine Grn.alloc ?_ _ | with_reducible refine Grn.drew ?_))).cell hgn c0, (show Grn g wr _ from by (show Grn _ _ _; repeat (first | with_reducible exact Grn.refl | with_reducible refine Grn.setCell ?_ _ _ | with_reducible refine Grn.ext ?_ _ | with_reducible refine Grn.alloc ?_ _ | with_reducible refine Grn.drew ?_))).cell hgn c1, (show Grn g wr _ from by (show Grn _ _ _; repeat (first | with_reducible exact Grn.refl | with_reducible refine Grn.setCell ?_ _ _ | with_reducible refine Grn.ext ?_ _ | with_reducible refine Grn.alloc ?_ _ | with_reducible refine Grn.drew ?_))).cell hgn c2, (show Grn g wr _ from by (show Grn _ _ _; repeat (first | with_reducible exact Grn.refl | with_reducible refine Grn.setCell ?_ _ _ | with_reducible refine Grn.ext ?_ _ | with_reducible refine Grn.alloc ?_ _ | with_reducible refine Grn.drew ?_))).cell hgn c3, (show Grn g wr _ from by (show Grn _ _ _; repeat (first | with_reducible exact Grn.refl | with_reducible refine Grn.setCell ?_ _ _ | with_reducible refine Grn.ext ?_ _ | with_reducible refine Grn.alloc ?_ _ | with_reducible refine Grn.drew ?_))).cell hgn c4, (show Grn g wr _ from by (show Grn _ _ _; repeat (first | with_reducible exact Grn.refl | with_reducible refine Grn.setCell ?_ _ _ | with_reducible refine Grn.ext ?_ _ | with_reducible refine Grn.alloc ?_ _ | with_reducible refine Grn.drew ?_))).cell hgn c5'⟩, ⟨(show Grn g wr _ from by (show Grn _ _ _; repeat (first | with_reducible exact Grn.refl | with_reducible refine Grn.setCell ?_ _ _ | with_reducible refine Grn.ext ?_ _ | with_reducible refine Grn.alloc ?_ _ | with_reducible refine Grn.drew ?_))).cell hgn c6, (show Grn g wr _ from by (show Grn _ _ _; repeat (first | with_reducible exact Grn.refl | with_reducible refine Grn.setCell ?_ _ _ | with_reducible refine Grn.ext ?_ _ | with_reducible refine Grn.alloc ?_ _ | with_reducible refine Grn.drew ?_))).cell hgn c7, (show Grn g wr _ from by (show Grn _ _ _; repeat (first | with_reducible exact Grn.refl | with_reducible refine Grn.setCell ?_ _ _ | with_reducible refine Grn.ext ?_ _ | with_reducible refine Grn.alloc ?_ _ | with_reducible refine Grn.drew ?_))).cell hgn c8, (show Grn g wr _ from by (show Grn _ _ _; repeat (first | with_reducible exact Grn.refl | with_reducible refine Grn.setCell ?_ _ _ | with_reducible refine Grn.ext ?_ _ | with_reducible refine Grn.alloc ?_ _ | with_reducible refine Grn.drew ?_))).cell hgn c9, (show Grn g wr _ from by (show Grn _ _ _; repeat (first | with_reducible exact Grn.refl | with_reducible refine Grn.setCell ?_ _ _ | with_reducible refine Grn.ext ?_ _ | with_reducible refine Grn.alloc ?_ _ | with_reducible refine Grn.drew ?_))).cell hgn c10, (show Grn g wr _ from by (show Grn _ _ _; repeat (first | with_reducible exact Grn.refl | with_reducible refine Grn.setCell ?_ _ _ | with_reducible refine Grn.ext ?_ _ | with_reducible refine Grn.alloc ?_ _ | with_reducible refine Grn.drew ?_))).cell hgn c11⟩, (show Grn g wr _ from by (show Grn _ _ _; repeat (first | with_reducible exact Grn.refl | with_reducible refine Grn.setCell ?_ _ _ | with_reducible refine Grn.ext ?_ _ | with_reducible refine Grn.alloc ?_ _ | with_reducible refine Grn.drew ?_))).cell hgn c12⟩, (show Grn g wr _ from by (show Grn _ _ _; repeat (first | with_reducible exact Grn.refl | with_reducible refine Grn.setCell ?_ _ _ | with_reducible refine Grn.ext ?_ _ | with_reducible refine Grn.alloc ?_ _ | with_reducible refine Grn.drew ?_))).cell hgn2 l0, (show Grn g wr _ from by (show Grn _ _ _; repeat (first | with_reducible exact Grn.refl | with_reducible refine Grn.setCell ?_ _ _ | with_reducible refine Grn.ext ?_ _ | with_reducible refine Grn.alloc ?_ _ | with_reducible refine Grn.drew ?_))).cell hgn2 l1, (show Grn g wr _ from by (show Grn _ _ _; repeat (first | with_reducible exact Grn.refl | with_reducible refine Grn.setCell ?_ _ _ | with_reducible refine Grn.ext ?_ _ | with_reducible refine Grn.alloc ?_ _ | with_reducible refine Grn.drew ?_))).cell hgn2 l2⟩) (fun hHeld => ?_)
    clear hOld hK K
    (try simp only [Act.put, List.setIfInBounds_toArray, List.set_cons_zero, List.set_cons_succ])
    refine take_only 6 (oi := ⟨_, _, _, _, _, _⟩) (by kernel_rfl) rfl (fun K hK => ?_)
    go_simp
    first
      | (go_at_call 51; refine (cell20_any a0 a1 a2 a3 a4 a5 b0 b1 b2 b3 b4 b5 _ sa sw.length sc rfl j hj6 u t HU.out HT.out hub htb _).mono ?_; rintro e w' ⟨rfl, r5, rfl⟩)
    have hOld := hHeld
    clear hHeld
    refine hK.out _ _ (by exact ⟨⟨⟨(show Grn g wr _ from by (show Grn _ _ _; repeat (first | with_reducible exact Grn.refl | with_reducible refine Grn.setCell ?_ _ _ | with_reducible refine Grn.ext ?_ _ | with_reducible refine Grn.alloc ?_ _ | with_reducible refine Grn.drew ?_))).cell hgn c0, (show Grn g wr _ from by (show Grn _ _ _; repeat (first | with_reducible exact Grn.refl | with_reducible refine Grn.setCell ?_ _ _ | with_reducible refine Grn.ext ?_ _ | with_reducible refine Grn.alloc ?_ _ | with_reducible refine Grn.drew ?_))).cell hgn c1, (show Grn g wr _ from by (show Grn _ _ _; repeat (first | with_reducible exact Grn.refl | with_reducible refine Grn.setCell ?_ _ _ | with_reducible refine Grn.ext ?_ _ | with_reducible refine Grn.alloc ?_ _ | with_reducible refine Grn.drew ?_))).cell hgn c2, (show Grn g wr _ from by (show Grn _ _ _; repeat (first | with_reducible exact Grn.refl | with_reducible refine Grn.setCell ?_ _ _ | with_reducible refine Grn.ext ?_ _ | with_reducible refine Grn.alloc ?_ _ | with_reducible refine Grn.drew ?_))).cell hgn c3, (show Grn g wr _ from by (show Grn _ _ _; repeat (first | with_reducible exact Grn.refl | with_reducible refine Grn.setCell ?_ _ _ | with_reducible refine Grn.ext ?_ _ | with_reducible refine Grn.alloc ?_ _ | with_reducible refine Grn.drew ?_))).cell hgn c4, (show Grn g wr _ from by (show Grn _ _ _; repeat (first | with_reducible exact Grn.refl | with_reducible refine Grn.setCell ?_ _ _ | with_reducible refine Grn.ext ?_ _ | with_reducible refine Grn.alloc ?_ _ | with_reducible refine Grn.drew ?_))).cell hgn c5'⟩, ⟨(show Grn g wr _ from by (show Grn _ _ _; repeat (first | with_reducible exact Grn.refl | with_reducible refine Grn.setCell ?_ _ _ | with_reducible refine Grn.ext ?_ _ | with_reducible refine Grn.alloc ?_ _ | with_reducible refine Grn.drew ?_))).cell hgn c6, (show Grn g wr _ from by (show Grn _ _ _; repeat (first | with_reducible exact Grn.refl | with_reducible refine Grn.setCell ?_ _ _ | with_reducible refine Grn.ext ?_ _ | with_reducible refine Grn.alloc ?_ _ | with_reducible refine Grn.drew ?_))).cell hgn c7, (show Grn g wr _ from by (show Grn _ _ _; repeat (first | with_reducible exact Grn.refl | with_reducible refine Grn.setCell ?_ _ _ | with_reducible refine Grn.ext ?_ _ | with_reducible refine Grn.alloc ?_ _ | with_reducible refine Grn.drew ?_))).cell hgn c8, (show Grn g wr _ from by (show Grn _ _ _; repeat (first | with_reducible exact Grn.refl | with_reducible refine Grn.setCell ?_ _ _ | with_reducible refine Grn.ext ?_ _ | with_reducible refine Grn.alloc ?_ _ | with_reducible refine Grn.drew ?_))).cell hgn c9, (show Grn g wr _ from by (show Grn _ _ _; repeat (first | with_reducible exact Grn.refl | with_reducible refine Grn.setCell ?_ _ _ | with_reducible refine Grn.ext ?_ _ | with_reducible refine Grn.alloc ?_ _ | with_reducible refine Grn.drew ?_))).cell hgn c10, (show Grn g wr _ from by (show Grn _ _ _; repeat (first | with_reducible exact Grn.refl | with_reducible refine Grn.setCell ?_ _ _ | with_reducible refine Grn.ext ?_ _ | with_reducible refine Grn.alloc ?_ _ | with_reducible refine Grn.drew ?_))).cell hgn c11⟩, (show Grn g wr _ from by (show Grn _ _ _; repeat (first | with_reducible exact Grn.refl | with_reducible refine Grn.setCell ?_ _ _ | with_reducible refine Grn.ext ?_ _ | with_reducible refine Grn.alloc ?_ _ | with_reducible refine Grn.drew ?_))).cell hgn c12⟩, (show Grn g wr _ from by (show Grn _ _ _; repeat (first | with_reducible exact Grn.refl | with_reducible refine Grn.setCell ?_ _ _ | with_reducible refine Grn.ext ?_ _ | with_reducible refine Grn.alloc ?_ _ | with_reducible refine Grn.drew ?_))).cell hgn2 l0, (show Grn g wr _ from by (show Grn _ _ _; repeat (first | with_reducible exact Grn.refl | with_reducible refine Grn.setCell ?_ _ _ | with_reducible refine Grn.ext ?_ _ | with_reducible refine Grn.alloc ?_ _ | with_reducible refine Grn.drew ?_))).cell hgn2 l1, (show Grn g wr _ from by (show Grn _ _ _; repeat (first | with_reducible exact Grn.refl | with_reducible refine Grn.setCell ?_ _ _ | with_reducible refine Grn.ext ?_ _ | with_reducible refine Grn.alloc ?_ _ | with_reducible refine Grn.drew ?_))).cell hgn2 l2⟩) (fun hHeld => ?_)
    clear hOld hK K
    (try simp only [Act.put, List.setIfInBounds_toArray, List.set_cons_zero, List.set_cons_succ])
    refine take_met 7 (oi := ⟨_, _, _, _, _, _⟩) (v := ?_) (by kernel_rfl) rfl (by rfl) (fun _ _ _ h => h) (by assumption) ?_ ?_
    rotate_left 1
    · intro w hSw
      try dsimp only at hSw
      go_simp
      try with_reducible rfl
    (try simp only [Act.put, List.setIfInBounds_toArray, List.set_cons_zero, List.set_cons_succ])
    refine take_only 8 (oi := ⟨_, _, _, _, _, _⟩) (by kernel_rfl) rfl (fun K hK => ?_)
    go_simp
    have hOld := hHeld
    clear hHeld
    refine hK.out _ _ (by exact ⟨⟨⟨(show Grn g wr _ from by (show Grn _ _ _; repeat (first | with_reducible exact Grn.refl | with_reducible refine Grn.setCell ?_ _ _ | with_reducible refine Grn.ext ?_ _ | with_reducible refine Grn.alloc ?_ _ | with_reducible refine Grn.drew ?_))).cell hgn c0, (show Grn g wr _ from by (show Grn _ _ _; repeat (first | with_reducible exact Grn.refl | with_reducible refine Grn.setCell ?_ _ _ | with_reducible refine Grn.ext ?_ _ | with_reducible refine Grn.alloc ?_ _ | with_reducible refine Grn.drew ?_))).cell hgn c1, (show Grn g wr _ from by (show Grn _ _ _; repeat (first | with_reducible exact Grn.refl | with_reducible refine Grn.setCell ?_ _ _ | with_reducible refine Grn.ext ?_ _ | with_reducible refine Grn.alloc ?_ _ | with_reducible refine Grn.drew ?_))).cell hgn c2, (show Grn g wr _ from by (show Grn _ _ _; repeat (first | with_reducible exact Grn.refl | with_reducible refine Grn.setCell ?_ _ _ | with_reducible refine Grn.ext ?_ _ | with_reducible refine Grn.alloc ?_ _ | with_reducible refine Grn.drew ?_))).cell hgn c3, (show Grn g wr _ from by (show Grn _ _ _; repeat (first | with_reducible exact Grn.refl | with_reducible refine Grn.setCell ?_ _ _ | with_reducible refine Grn.ext ?_ _ | with_reducible refine Grn.alloc ?_ _ | with_reducible refine Grn.drew ?_))).cell hgn c4, (show Grn g wr _ from by (show Grn _ _ _; repeat (first | with_reducible exact Grn.refl | with_reducible refine Grn.setCell ?_ _ _ | with_reducible refine Grn.ext ?_ _ | with_reducible refine Grn.alloc ?_ _ | with_reducible refine Grn.drew ?_))).cell hgn c5'⟩, ⟨(show Grn g wr _ from by (show Grn _ _ _; repeat (first | with_reducible exact Grn.refl | with_reducible refine Grn.setCell ?_ _ _ | with_reducible refine Grn.ext ?_ _ | with_reducible refine Grn.alloc ?_ _ | with_reducible refine Grn.drew ?_))).cell hgn c6, (show Grn g wr _ from by (show Grn _ _ _; repeat (first | with_reducible exact Grn.refl | with_reducible refine Grn.setCell ?_ _ _ | with_reducible refine Grn.ext ?_ _ | with_reducible refine Grn.alloc ?_ _ | with_reducible refine Grn.drew ?_))).cell hgn c7, (show Grn g wr _ from by (show Grn _ _ _; repeat (first | with_reducible exact Grn.refl | with_reducible refine Grn.setCell ?_ _ _ | with_reducible refine Grn.ext ?_ _ | with_reducible refine Grn.alloc ?_ _ | with_reducible refine Grn.drew ?_))).cell hgn c8, (show Grn g wr _ from by (show Grn _ _ _; repeat (first | with_reducible exact Grn.refl | with_reducible refine Grn.setCell ?_ _ _ | with_reducible refine Grn.ext ?_ _ | with_reducible refine Grn.alloc ?_ _ | with_reducible refine Grn.drew ?_))).cell hgn c9, (show Grn g wr _ from by (show Grn _ _ _; repeat (first | with_reducible exact Grn.refl | with_reducible refine Grn.setCell ?_ _ _ | with_reducible refine Grn.ext ?_ _ | with_reducible refine Grn.alloc ?_ _ | with_reducible refine Grn.drew ?_))).cell hgn c10, (show Grn g wr _ from by (show Grn _ _ _; repeat (first | with_reducible exact Grn.refl | with_reducible refine Grn.setCell ?_ _ _ | with_reducible refine Grn.ext ?_ _ | with_reducible refine Grn.alloc ?_ _ | with_reducible refine Grn.drew ?_))).cell hgn c11⟩, (show Grn g wr _ from by (show Grn _ _ _; repeat (first | with_reducible exact Grn.refl | with_reducible refine Grn.setCell ?_ _ _ | with_reducible refine Grn.ext ?_ _ | with_reducible refine Grn.alloc ?_ _ | with_reducible refine Grn.drew ?_))).cell hgn c12⟩, (show Grn g wr _ from by (show Grn _ _ _; repeat (first | with_reducible exact Grn.refl | with_reducible refine Grn.setCell ?_ _ _ | with_reducible refine Grn.ext ?_ _ | with_reducible refine Grn.alloc ?_ _ | with_reducible refine Grn.drew ?_))).cell hgn2 l0, (show Grn g wr _ from by (show Grn _ _ _; repeat (first | with_reducible exact Grn.refl | with_reducible refine Grn.setCell ?_ _ _ | with_reducible refine Grn.ext ?_ _ | with_reducible refine Grn.alloc ?_ _ | with_reducible refine Grn.drew ?_))).cell hgn2 l1, (show Grn g wr _ from by (show Grn _ _ _; repeat (first | with_reducible exact Grn.refl | with_reducible refine Grn.setCell ?_ _ _ | with_reducible refine Grn.ext ?_ _ | with_reducible refine Grn.alloc ?_ _ | with_reducible refine Grn.drew ?_))).cell hgn2 l2⟩) (fun hHeld => ?_)
    clear hOld hK K
    (try simp only [Act.put, List.setIfInBounds_toArray, List.set_cons_zero, List.set_cons_succ])
    refine wpAnyH_done (by kernel_rfl) ?_ _
    go_wp2_with fail
    go_roundw
    case rel => exact ⟨j + 1, M.set (56 + j) (u, t, 0), by omega, by go_num, hid (HI.out.set _ ⟨⟨by dsimp only; omega, by dsimp only; omega⟩, ⟨by dsimp only; omega, by dsimp only; omega⟩, ⟨by dsimp only; omega, by dsimp only; omega⟩⟩), hid (Ws.put (HL.out.of (by (show Ext _ _; repeat (first | with_reducible (refine Hid.out ?_; assumption) | with_reducible exact Ext.refl _ | with_reducible refine Ext.ext ?_ _ | with_reducible refine Ext.alloc ?_ _ | refine Ext.drew ?_ | refine Ext.drewN ?_ _ | exact Ext.refl _)))) (by rw [HML.out]; omega) u t 0), hid ((((HG.out.trans (Grn.of_ext (by (show Ext _ _; repeat (first | with_reducible (refine Hid.out ?_; assumption) | with_reducible exact Ext.refl _ | with_reducible refine Ext.ext ?_ _ | with_reducible refine Ext.alloc ?_ _ | refine Ext.drew ?_ | refine Ext.drewN ?_ _ | exact Ext.refl _))))).setCell _ _).setCell _ _).setCell _ _)⟩
    case measure => simp [intOf]; omega
  have hjj : ¬ (j : Int) < 6 := by omega
  obtain rfl : j = 6 := by omega
  have HI1 := hid HI.out
  have HL1 := hid HL.out
  clear hj hj6 HI HL c0 c1 c2 c3 c4 c5' c6 c7 c8 c9 c10 c11 c12 c13 l0 l1 l2 l4
  go_wp2_with fail
  go_loopw [7] (fun i wk => ∃ (s : Nat) (M : List Wd), s ≤ sw.length ∧ i = .int .i64 s ∧ Hid (Im M) ∧ Hid (Ws wk w.heap.size (.slice (some ⟨g, 0, none⟩) 416 c5) M) ∧ Hid (Grn g U wk)) (fun i _ => sw.length - (intOf i).toNat)
  case atStart => exact ⟨0, _, by omega, rfl, HI1, HL1, HG⟩
  case round =>
  clear HI1 HL1 HG HEw HBcw HBlw hgw
  obtain ⟨s, M, hsl, rfl, HI, HL, HG⟩ := hrel
  have HEw := hid (HEU.out.grn HG.out (by omega))
  have HBcw := hid (HBc.out.grn HG.out (by omega))
  have HBlw := hid (HBl.out.grn HG.out (by omega))
  have hgw : g < wr.heap.size := Nat.lt_of_lt_of_le hgU HG.out.size
  obtain ⟨l0, l1, l2⟩ := HBlw.out.three
  have l4 := HBlw.out.1
  have c0 := HBcw.out.2.2 0 _ rfl
  have c1 := HBcw.out.2.2 1 _ rfl
  have c2 := HBcw.out.2.2 2 _ rfl
  have c3 := HBcw.out.2.2 3 _ rfl
  have c4 := HBcw.out.2.2 4 _ rfl
  have c5' := HBcw.out.2.2 5 _ rfl
  have c6 := HBcw.out.2.2 6 _ rfl
  have c7 := HBcw.out.2.2 7 _ rfl
  have c8 := HBcw.out.2.2 8 _ rfl
  have c9 := HBcw.out.2.2 9 _ rfl
  have c10 := HBcw.out.2.2 10 _ rfl
  have c11 := HBcw.out.2.2 11 _ rfl
  have c12 := HBcw.out.2.2 12 _ rfl
  have c13 := HBcw.out.1
  by_cases hsn : s < sw.length
  rotate_left
  · have hd : decide (s < sw.length) = false := decide_eq_false hsn
    go_wp2_with fail
    go_ret2
    exact ⟨HEw.out, .inr ⟨_, M, rfl, HI.out, HL.out⟩⟩
  have hd : decide (s < sw.length) = true := decide_eq_true hsn
  have hsi : (s : Int) < (sw.length : Int) := by omega
  obtain ⟨⟨iv, il⟩, hx⟩ : ∃ x, sw[s]? = some x := ⟨_, List.getElem?_eq_getElem hsn⟩
  have hok := HK.out _ (List.mem_of_getElem? hx)
  have hi6 := HF.out _ (List.mem_of_getElem? hx)
  dsimp only at hi6
  obtain ⟨_, bm, om, hab, hbm, hcm⟩ := Sl.at (HV.out.of swE_len HEw.out) hx
  subst hab
  have q0 := hcm 0 (by omega)
  simp [swE] at q0
  obtain ⟨hit, hio⟩ := hok
  have HIt := hid hit
  have HIo := hid hio
  obtain ⟨ia, ic, hvl, _, _⟩ := hit
  dsimp only at hvl
  subst hvl
  have hbg : bm ≠ g := by
    obtain ⟨_, b', o', hab', hb', _⟩ := Sl.at HV.out hx
    cases hab'
    omega
  dsimp only at HIt HIo
  have HQ0 := hid (show w.cell? ⟨bm, om + s, none⟩ = some (.slice ia il.length ic) by
    obtain ⟨_, b', o', hab', _, hc'⟩ := Sl.at HV.out hx
    cases hab'
    have h := hc' 0 (by omega)
    simpa [swE] using h)
  clear hx hcm hio
  go_upto_region 12 with fail
  refine wp_region_held_drew (S := fun w' => (((w'.cell? ⟨w.heap.size, 0, none⟩ = some (.int .i8 a0) ∧ w'.cell? ⟨w.heap.size, 1, none⟩ = some (.int .i8 a1) ∧ w'.cell? ⟨w.heap.size, 2, none⟩ = some (.int .i8 a2) ∧ w'.cell? ⟨w.heap.size, 3, none⟩ = some (.int .i8 a3) ∧ w'.cell? ⟨w.heap.size, 4, none⟩ = some (.int .i8 a4) ∧ w'.cell? ⟨w.heap.size, 5, none⟩ = some (.int .i8 a5)) ∧ (w'.cell? ⟨w.heap.size, 6, none⟩ = some (.int .u8 b0) ∧ w'.cell? ⟨w.heap.size, 7, none⟩ = some (.int .u8 b1) ∧ w'.cell? ⟨w.heap.size, 8, none⟩ = some (.int .u8 b2) ∧ w'.cell? ⟨w.heap.size, 9, none⟩ = some (.int .u8 b3) ∧ w'.cell? ⟨w.heap.size, 10, none⟩ = some (.int .u8 b4) ∧ w'.cell? ⟨w.heap.size, 11, none⟩ = some (.int .u8 b5)) ∧ w'.cell? ⟨w.heap.size, 12, none⟩ = some (.slice (some ⟨bm, om, none⟩) sw.length sc))) ∧ w'.cell? ⟨bm, om + s, none⟩ = some (.slice ia il.length ic)) (by kernel_rfl) (by exact ⟨⟨⟨(show Ext wr _ by (show Ext _ _; repeat (first | with_reducible (refine Hid.out ?_; assumption) | with_reducible exact Ext.refl _ | with_reducible refine Ext.ext ?_ _ | with_reducible refine Ext.alloc ?_ _ | with_reducible refine Ext.drew ?_ | with_reducible refine Ext.setCell ?_ (by (try dsimp only); first | omega | (simp; done) | (simp; omega)) _))).cell c0, (show Ext wr _ by (show Ext _ _; repeat (first | with_reducible (refine Hid.out ?_; assumption) | with_reducible exact Ext.refl _ | with_reducible refine Ext.ext ?_ _ | with_reducible refine Ext.alloc ?_ _ | with_reducible refine Ext.drew ?_ | with_reducible refine Ext.setCell ?_ (by (try dsimp only); first | omega | (simp; done) | (simp; omega)) _))).cell c1, (show Ext wr _ by (show Ext _ _; repeat (first | with_reducible (refine Hid.out ?_; assumption) | with_reducible exact Ext.refl _ | with_reducible refine Ext.ext ?_ _ | with_reducible refine Ext.alloc ?_ _ | with_reducible refine Ext.drew ?_ | with_reducible refine Ext.setCell ?_ (by (try dsimp only); first | omega | (simp; done) | (simp; omega)) _))).cell c2, (show Ext wr _ by (show Ext _ _; repeat (first | with_reducible (refine Hid.out ?_; assumption) | with_reducible exact Ext.refl _ | with_reducible refine Ext.ext ?_ _ | with_reducible refine Ext.alloc ?_ _ | with_reducible refine Ext.drew ?_ | with_reducible refine Ext.setCell ?_ (by (try dsimp only); first | omega | (simp; done) | (simp; omega)) _))).cell c3, (show Ext wr _ by (show Ext _ _; repeat (first | with_reducible (refine Hid.out ?_; assumption) | with_reducible exact Ext.refl _ | with_reducible refine Ext.ext ?_ _ | with_reducible refine Ext.alloc ?_ _ | with_reducible refine Ext.drew ?_ | with_reducible refine Ext.setCell ?_ (by (try dsimp only); first | omega | (simp; done) | (simp; omega)) _))).cell c4, (show Ext wr _ by (show Ext _ _; repeat (first | with_reducible (refine Hid.out ?_; assumption) | with_reducible exact Ext.refl _ | with_reducible refine Ext.ext ?_ _ | with_reducible refine Ext.alloc ?_ _ | with_reducible refine Ext.drew ?_ | with_reducible refine Ext.setCell ?_ (by (try dsimp only); first | omega | (simp; done) | (simp; omega)) _))).cell c5'⟩, ⟨(show Ext wr _ by (show Ext _ _; repeat (first | with_reducible (refine Hid.out ?_; assumption) | with_reducible exact Ext.refl _ | with_reducible refine Ext.ext ?_ _ | with_reducible refine Ext.alloc ?_ _ | with_reducible refine Ext.drew ?_ | with_reducible refine Ext.setCell ?_ (by (try dsimp only); first | omega | (simp; done) | (simp; omega)) _))).cell c6, (show Ext wr _ by (show Ext _ _; repeat (first | with_reducible (refine Hid.out ?_; assumption) | with_reducible exact Ext.refl _ | with_reducible refine Ext.ext ?_ _ | with_reducible refine Ext.alloc ?_ _ | with_reducible refine Ext.drew ?_ | with_reducible refine Ext.setCell ?_ (by (try dsimp only); first | omega | (simp; done) | (simp; omega)) _))).cell c7, (show Ext wr _ by (show Ext _ _; repeat (first | with_reducible (refine Hid.out ?_; assumption) | with_reducible exact Ext.refl _ | with_reducible refine Ext.ext ?_ _ | with_reducible refine Ext.alloc ?_ _ | with_reducible refine Ext.drew ?_ | with_reducible refine Ext.setCell ?_ (by (try dsimp only); first | omega | (simp; done) | (simp; omega)) _))).cell c8, (show Ext wr _ by (show Ext _ _; repeat (first | with_reducible (refine Hid.out ?_; assumption) | with_reducible exact Ext.refl _ | with_reducible refine Ext.ext ?_ _ | with_reducible refine Ext.alloc ?_ _ | with_reducible refine Ext.drew ?_ | with_reducible refine Ext.setCell ?_ (by (try dsimp only); first | omega | (simp; done) | (simp; omega)) _))).cell c9, (show Ext wr _ by (show Ext _ _; repeat (first | with_reducible (refine Hid.out ?_; assumption) | with_reducible exact Ext.refl _ | with_reducible refine Ext.ext ?_ _ | with_reducible refine Ext.alloc ?_ _ | with_reducible refine Ext.drew ?_ | with_reducible refine Ext.setCell ?_ (by (try dsimp only); first | omega | (simp; done) | (simp; omega)) _))).cell c10, (show Ext wr _ by (show Ext _ _; repeat (first | with_reducible (refine Hid.out ?_; assumption) | with_reducible exact Ext.refl _ | with_reducible refine Ext.ext ?_ _ | with_reducible refine Ext.alloc ?_ _ | with_reducible refine Ext.drew ?_ | with_reducible refine Ext.setCell ?_ (by (try dsimp only); first | omega | (simp; done) | (simp; omega)) _))).cell c11⟩, (show Ext wr _ by (show Ext _ _; repeat (first | with_reducible (refine Hid.out ?_; assumption) | with_reducible exact Ext.refl _ | with_reducible refine Ext.ext ?_ _ | with_reducible refine Ext.alloc ?_ _ | with_reducible refine Ext.drew ?_ | with_reducible refine Ext.setCell ?_ (by (try dsimp only); first | omega | (simp; done) | (simp; omega)) _))).cell c12⟩, (show Ext wr _ by (show Ext _ _; repeat (first | with_reducible (refine Hid.out ?_; assumption) | with_reducible exact Ext.refl _ | with_reducible refine Ext.ext ?_ _ | with_reducible refine Ext.alloc ?_ _ | with_reducible refine Ext.drew ?_ | with_reducible refine Ext.setCell ?_ (by (try dsimp only); first | omega | (simp; done) | (simp; omega)) _))).cell q0⟩) (fun hHeld => ?_)
  refine take_met 0 (oi := ⟨_, _, _, _, _, _⟩) (v := ?_) (by kernel_rfl) rfl (by rfl) (fun _ _ _ h => h) (by assumption) ?_ ?_
  rotate_left 1
  · intro w hSw
    try dsimp only at hSw
    go_simp
    try with_reducible rfl
  (try simp only [Act.put, List.setIfInBounds_toArray, List.set_cons_zero, List.set_cons_succ])
  refine take_met 1 (oi := ⟨_, _, _, _, _, _⟩) (v := ?_) (by kernel_rfl) rfl (by rfl) (fun _ _ _ h => h) (by assumption) ?_ ?_
  rotate_left 1
  · intro w hSw
    try dsimp only at hSw
    go_simp
    try with_reducible rfl
  (try simp only [Act.put, List.setIfInBounds_toArray, List.set_cons_zero, List.set_cons_succ])
  refine take_met 2 (oi := ⟨_, _, _, _, _, _⟩) (v := ?_) (by kernel_rfl) rfl (by rfl) (fun _ _ _ h => h) (by assumption) ?_ ?_
  rotate_left 1
  · intro w hSw
    try dsimp only at hSw
    go_simp
    try with_reducible rfl
  (try simp only [Act.put, List.setIfInBounds_toArray, List.set_cons_zero, List.set_cons_succ])
  refine take_met 3 (oi := ⟨_, _, _, _, _, _⟩) (v := ?_) (by kernel_rfl) rfl (by rfl) (fun _ _ _ h => h) (by assumption) ?_ ?_
  rotate_left 1
  · intro w hSw
    try dsimp only at hSw
    go_simp
    try with_reducible rfl
  (try simp only [Act.put, List.setIfInBounds_toArray, List.set_cons_zero, List.set_cons_succ])
  refine take_met 4 (oi := ⟨_, _, _, _, _, _⟩) (v := ?_) (by kernel_rfl) rfl (by rfl) (fun _ _ _ h => h) (by assumption) ?_ ?_
  rotate_left 1
  · intro w hSw
    try dsimp only at hSw
    go_simp
    try with_reducible rfl
  (try simp only [Act.put, List.setIfInBounds_toArray, List.set_cons_zero, List.set_cons_succ])
  refine take_met 5 (oi := ⟨_, _, _, _, _, _⟩) (v := ?_) (by kernel_rfl) rfl (by rfl) (fun _ _ _ h => h) (by assumption) ?_ ?_
  rotate_left 1
  · intro w hSw
    try dsimp only at hSw
    go_simp
    try with_reducible rfl
  (try simp only [Act.put, List.setIfInBounds_toArray, List.set_cons_zero, List.set_cons_succ])
  refine take_only 6 (oi := ⟨_, _, _, _, _, _⟩) (by kernel_rfl) rfl (fun K hK => ?_)
  go_simp
  first
    | (go_at_call 52; refine (ents20_any a0 a1 a2 a3 a4 a5 b0 b1 b2 b3 b4 b5 HA.out HB.out _ sw.length sc il _ HIo.out (by omega) _ (HS.out.of (HEw.out.trans (by (show Ext _ _; repeat (first | with_reducible (refine Hid.out ?_; assumption) | with_reducible exact Ext.refl _ | with_reducible refine Ext.ext ?_ _ | with_reducible refine Ext.alloc ?_ _ | refine Ext.drew ?_ | refine Ext.drewN ?_ _ | exact Ext.refl _))))) (HIt.out.of itE_len (HEw.out.trans (by (show Ext _ _; repeat (first | with_reducible (refine Hid.out ?_; assumption) | with_reducible exact Ext.refl _ | with_reducible refine Ext.ext ?_ _ | with_reducible refine Ext.alloc ?_ _ | refine Ext.drew ?_ | refine Ext.drewN ?_ _ | exact Ext.refl _)))))).mono ?_; rintro y w' ⟨v8, rfl, ⟨r6, rfl⟩, hv8⟩)
  have hOld := hHeld
  clear hHeld
  refine hK.out _ _ (by exact ⟨⟨⟨(show Ext wr _ by (show Ext _ _; repeat (first | with_reducible (refine Hid.out ?_; assumption) | with_reducible exact Ext.refl _ | with_reducible refine Ext.ext ?_ _ | with_reducible refine Ext.alloc ?_ _ | with_reducible refine Ext.drew ?_ | with_reducible refine Ext.setCell ?_ (by (try dsimp only); first | omega | (simp; done) | (simp; omega)) _))).cell c0, (show Ext wr _ by (show Ext _ _; repeat (first | with_reducible (refine Hid.out ?_; assumption) | with_reducible exact Ext.refl _ | with_reducible refine Ext.ext ?_ _ | with_reducible refine Ext.alloc ?_ _ | with_reducible refine Ext.drew ?_ | with_reducible refine Ext.setCell ?_ (by (try dsimp only); first | omega | (simp; done) | (simp; omega)) _))).cell c1, (show Ext wr _ by (show Ext _ _; repeat (first | with_reducible (refine Hid.out ?_; assumption) | with_reducible exact Ext.refl _ | with_reducible refine Ext.ext ?_ _ | with_reducible refine Ext.alloc ?_ _ | with_reducible refine Ext.drew ?_ | with_reducible refine Ext.setCell ?_ (by (try dsimp only); first | omega | (simp; done) | (simp; omega)) _))).cell c2, (show Ext wr _ by (show Ext _ _; repeat (first | with_reducible (refine Hid.out ?_; assumption) | with_reducible exact Ext.refl _ | with_reducible refine Ext.ext ?_ _ | with_reducible refine Ext.alloc ?_ _ | with_reducible refine Ext.drew ?_ | with_reducible refine Ext.setCell ?_ (by (try dsimp only); first | omega | (simp; done) | (simp; omega)) _))).cell c3, (show Ext wr _ by (show Ext _ _; repeat (first | with_reducible (refine Hid.out ?_; assumption) | with_reducible exact Ext.refl _ | with_reducible refine Ext.ext ?_ _ | with_reducible refine Ext.alloc ?_ _ | with_reducible refine Ext.drew ?_ | with_reducible refine Ext.setCell ?_ (by (try dsimp only); first | omega | (simp; done) | (simp; omega)) _))).cell c4, (show Ext wr _ by (show Ext _ _; repeat (first | with_reducible (refine Hid.out ?_; assumption) | with_reducible exact Ext.refl _ | with_reducible refine Ext.ext ?_ _ | with_reducible refine Ext.alloc ?_ _ | with_reducible refine Ext.drew ?_ | with_reducible refine Ext.setCell ?_ (by (try dsimp only); first | omega | (simp; done) | (simp; omega)) _))).cell c5'⟩, ⟨(show Ext wr _ by (show Ext _ _; repeat (first | with_reducible (refine Hid.out ?_; assumption) | with_reducible exact Ext.refl _ | with_reducible refine Ext.ext ?_ _ | with_reducible refine Ext.alloc ?_ _ | with_reducible refine Ext.drew ?_ | with_reducible refine Ext.setCell ?_ (by (try dsimp only); first | omega | (simp; done) | (simp; omega)) _))).cell c6, (show Ext wr _ by (show Ext _ _; repeat (first | with_reducible (refine Hid.out ?_; assumption) | with_reducible exact Ext.refl _ | with_reducible refine Ext.ext ?_ _ | with_reducible refine Ext.alloc ?_ _ | with_reducible refine Ext.drew ?_ | with_reducible refine Ext.setCell ?_ (by (try dsimp only); first | omega | (simp; done) | (simp; omega)) _))).cell c7, (show Ext wr _ by (show Ext _ _; repeat (first | with_reducible (refine Hid.out ?_; assumption) | with_reducible exact Ext.refl _ | with_reducible refine Ext.ext ?_ _ | with_reducible refine Ext.alloc ?_ _ | with_reducible refine Ext.drew ?_ | with_reducible refine Ext.setCell ?_ (by (try dsimp only); first | omega | (simp; done) | (simp; omega)) _))).cell c8, (show Ext wr _ by (show Ext _ _; repeat (first | with_reducible (refine Hid.out ?_; assumption) | with_reducible exact Ext.refl _ | with_reducible refine Ext.ext ?_ _ | with_reducible refine Ext.alloc ?_ _ | with_reducible refine Ext.drew ?_ | with_reducible refine Ext.setCell ?_ (by (try dsimp only); first | omega | (simp; done) | (simp; omega)) _))).cell c9, (show Ext wr _ by (show Ext _ _; repeat (first | with_reducible (refine Hid.out ?_; assumption) | with_reducible exact Ext.refl _ | with_reducible refine Ext.ext ?_ _ | with_reducible refine Ext.alloc ?_ _ | with_reducible refine Ext.drew ?_ | with_reducible refine Ext.setCell ?_ (by (try dsimp only); first | omega | (simp; done) | (simp; omega)) _))).cell c10, (show Ext wr _ by (show Ext _ _; repeat (first | with_reducible (refine Hid.out ?_; assumption) | with_reducible exact Ext.refl _ | with_reducible refine Ext.ext ?_ _ | with_reducible refine Ext.alloc ?_ _ | with_reducible refine Ext.drew ?_ | with_reducible refine Ext.setCell ?_ (by (try dsimp only); first | omega | (simp; done) | (simp; omega)) _))).cell c11⟩, (show Ext wr _ by (show Ext _ _; repeat (first | with_reducible (refine Hid.out ?_; assumption) | with_reducible exact Ext.refl _ | with_reducible refine Ext.ext ?_ _ | with_reducible refine Ext.alloc ?_ _ | with_reducible refine Ext.drew ?_ | with_reducible refine Ext.setCell ?_ (by (try dsimp only); first | omega | (simp; done) | (simp; omega)) _))).cell c12⟩, (show Ext wr _ by (show Ext _ _; repeat (first | with_reducible (refine Hid.out ?_; assumption) | with_reducible exact Ext.refl _ | with_reducible refine Ext.ext ?_ _ | with_reducible refine Ext.alloc ?_ _ | with_reducible refine Ext.drew ?_ | with_reducible refine Ext.setCell ?_ (by (try dsimp only); first | omega | (simp; done) | (simp; omega)) _))).cell q0⟩) (fun hHeld => ?_)
  clear hOld hK K
  (try simp only [Act.put, List.setIfInBounds_toArray, List.set_cons_zero, List.set_cons_succ])
  refine take_met 7 (oi := ⟨_, _, _, _, _, _⟩) (v := ?_) (by kernel_rfl) rfl (by rfl) (fun _ _ _ h => h) (by assumption) ?_ ?_
  rotate_left 1
  · intro w hSw
    try dsimp only at hSw
    go_simp
    try with_reducible rfl
  (try simp only [Act.put, List.setIfInBounds_toArray, List.set_cons_zero, List.set_cons_succ])
  refine wpAnyH_done (by kernel_rfl) ?_ _
  clear hHeld
  obtain ⟨E, hE⟩ : ∃ E, E = entsTo [a0, a1, a2, a3, a4, a5] [b0, b1, b2, b3, b4, b5] il 6 := ⟨_, rfl⟩
  have hEl := entsTo_len [a0, a1, a2, a3, a4, a5] [b0, b1, b2, b3, b4, b5] il 6
  have hEo := entsTo_ok (n := 6) (Nat.le_refl _) HA.out HB.out HIo.out
  rw [← hE] at hv8 hEl hEo
  have HEo := hid hEo
  obtain ⟨a8, c8', rfl⟩ := Own.shape hv8
  generalize hX : ext _ r6 = X at *
  have HEX0 := hid (show Ext wr X by rw [← hX]; (show Ext _ _; repeat (first | with_reducible (refine Hid.out ?_; assumption) | with_reducible exact Ext.refl _ | with_reducible refine Ext.ext ?_ _ | with_reducible refine Ext.alloc ?_ _ | refine Ext.drew ?_ | refine Ext.drewN ?_ _ | exact Ext.refl _)))
  have HEX := hid (HEw.out.trans HEX0.out)
  have HEs := hid (show Es X (.slice a8 E.length c8') E from Sl.of_own enE_len hv8)
  have HApE := hid (Own.apart hv8 hgw)
  have HBcX := hid (HBcw.out.of HEX0.out)
  have HBlX := hid (HBlw.out.of HEX0.out)
  have HLX := hid (HL.out.of HEX0.out)
  have HGX := hid (HG.out.trans (Grn.of_ext HEX0.out))
  have hgX : g < X.heap.size := Nat.lt_of_lt_of_le hgw HEX0.out.size
  clear hX hv8 hE hEo c0 c1 c2 c3 c4 c5' c6 c7 c8 c9 c10 c11 c12 c13 l0 l1 l2 l4 q0 HEw HBcw HBlw HL HG hgw HEX0
  obtain ⟨l0, l1, l2⟩ := HBlX.out.three
  have l4 := HBlX.out.1
  by_cases hE0 : E.length = 0
  · have hb : ((E.length : Int) == 0) = true := by simp [hE0]
    clear hE0
    go_wp2_with fail
    go_roundw
    case rel => exact ⟨s + 1, M, by omega, by go_num, HI, HLX, HGX⟩
    case measure => simp [intOf]; omega
  have hb : ((E.length : Int) == 0) = false := beq_eq_false_iff_ne.2 (by omega)
  clear hE0
  have hs3 : s < 3 := by omega
  have hws : IntKind.i64.wrap ((s : Int) + 1) = (s : Int) + 1 := IntWalk.i64_in _ (by omega)
  go_wp2_with fail
  refine (dwords_any 3 8 1 ((s : Int) + 1) 1 0 (by omega) (by omega) E _ (fun e he => (HEo.out e he).1) _ (HS.out.of (HEX.out.trans (by (show Ext _ _; repeat (first | with_reducible (refine Hid.out ?_; assumption) | with_reducible exact Ext.refl _ | with_reducible refine Ext.ext ?_ _ | with_reducible refine Ext.alloc ?_ _ | refine Ext.drew ?_ | refine Ext.drewN ?_ _ | exact Ext.refl _))))) (HEs.out.of enE_len (by (show Ext _ _; repeat (first | with_reducible (refine Hid.out ?_; assumption) | with_reducible exact Ext.refl _ | with_reducible refine Ext.ext ?_ _ | with_reducible refine Ext.alloc ?_ _ | refine Ext.drew ?_ | refine Ext.drewN ?_ _ | exact Ext.refl _))))).mono ?_
  rintro y w' ⟨v9, rfl, ⟨r7, rfl⟩, hv9⟩
  by_cases hdc : dcheckN 3 8 1 ((s : Int) + 1) 1 0 E = 0
  rotate_left
  · have hb2 : (dcheckN 3 8 1 ((s : Int) + 1) 1 0 E != 0) = true := by simpa using hdc
    rw [if_neg hdc] at hv9
    obtain ⟨a9, c9', rfl⟩ := Own.shape hv9
    clear hdc hv9
    go_wp2_with fail
    go_ret2
    exact ⟨HEX.out.trans (by (show Ext _ _; repeat (first | with_reducible (refine Hid.out ?_; assumption) | with_reducible exact Ext.refl _ | with_reducible refine Ext.ext ?_ _ | with_reducible refine Ext.alloc ?_ _ | refine Ext.drew ?_ | refine Ext.drewN ?_ _ | exact Ext.refl _))), .inl rfl⟩
  rw [if_pos hdc] at hv9
  rw [hdc]
  obtain ⟨D, hD⟩ : ∃ D, D = wordsW 1 0 E := ⟨_, rfl⟩
  rw [← hD] at hv9
  have hDl : D.length = 2 + 3 * E.length := by rw [hD, wordsW_len]
  have HDo := hid (show ∀ a ∈ D, WdOk a by rw [hD]; exact wordsW_ok (by omega) (by omega) (by omega) (fun e he => (HEo.out e he).1))
  have hDb : D.length ≤ 20 := by omega
  obtain ⟨g9, c9', rfl, hg9, _⟩ := Ws.open hv9 (by omega)
  clear hDl hD
  go_wp2_with fail
  generalize hV : ext _ r7 = V at *
  have HEV0 := hid (show Ext X V by rw [← hV]; (show Ext _ _; repeat (first | with_reducible (refine Hid.out ?_; assumption) | with_reducible exact Ext.refl _ | with_reducible refine Ext.ext ?_ _ | with_reducible refine Ext.alloc ?_ _ | refine Ext.drew ?_ | refine Ext.drewN ?_ _ | exact Ext.refl _)))
  have HEV := hid (HEX.out.trans HEV0.out)
  have HSD := hid (show Sl V 3 wdE (.slice (some ⟨g9, 0, none⟩) D.length c9') D from Sl.of_own wdE_len hv9)
  have HEsV := hid (HEs.out.of enE_len HEV0.out)
  have HBcV := hid (HBcX.out.of HEV0.out)
  have HBlV := hid (HBlX.out.of HEV0.out)
  have HLV := hid (HLX.out.of HEV0.out)
  have HGV := hid (HGX.out.trans (Grn.of_ext HEV0.out))
  have hgV : g < V.heap.size := Nat.lt_of_lt_of_le hgX HEV0.out.size
  have hg9g : g9 ≠ g := by have h1 := hg9; (try simp at h1); omega
  have HI3 := hid HI.out
  clear hV hv9 hg9 hdc HEs HBcX HBlX HLX HGX hgX HEV0 HEX HI l0 l1 l2 l4
  go_loopw [11] (fun i wk => ∃ (j : Nat) (M : List Wd), j ≤ D.length ∧ i = .int .i64 j ∧ Hid (Im M) ∧ Hid (Ws wk w.heap.size (.slice (some ⟨g, 0, none⟩) 416 c5) M) ∧ Hid (Grn g V wk)) (fun i _ => D.length - (intOf i).toNat)
  case atStart => exact ⟨0, _, by omega, rfl, HI3, HLV, hid Grn.refl⟩
  case round =>
  clear HI3 HLV
  obtain ⟨j, M3, hj, rfl, HI, HL, HG⟩ := hrel
  have hVs := HEV.out.size
  have HEw := hid (HEV.out.grn HG.out (by omega))
  have HBlw := hid (HBlV.out.grn HG.out (by omega))
  have hgw : g < wr.heap.size := Nat.lt_of_lt_of_le hgV HG.out.size
  obtain ⟨l0, l1, l2⟩ := HBlw.out.three
  have l4 := HBlw.out.1
  by_cases hjd : j < D.length
  · have hdj : decide (j < D.length) = true := decide_eq_true hjd
    have hji : (j : Int) < (D.length : Int) := by omega
    obtain ⟨⟨u1, u2, u3⟩, hu⟩ : ∃ u, D[j]? = some u := ⟨_, List.getElem?_eq_getElem hjd⟩
    have huo := HDo.out _ (List.mem_of_getElem? hu)
    have HUo := hid huo
    obtain ⟨hq5, b4, o4, ha4, hbl, hcx⟩ := Sl.at (HSD.out.grn wdE_len HG.out hg9g) hu
    cases ha4
    have k0 := hcx 0 (by omega)
    have k1 := hcx 1 (by omega)
    have k2 := hcx 2 (by omega)
    simp [wdE] at k0 k1 k2
    have hML := HI.out.1
    obtain ⟨p, hp⟩ : ∃ p, p = 64 + s * 104 := ⟨_, rfl⟩
    have HSl := hid (show atN 3 8 1 4 (wrap64 ((s : Int) + 1 - 1)) 0 = (p : Int) by rw [hp]; exact slot31 s hs3)
    have hpj : p + j < 416 := by omega
    obtain ⟨⟨y1, y2, y3⟩, hy⟩ : ∃ y, M3[p + j]? = some y := ⟨_, List.getElem?_eq_getElem (by rw [hML]; omega)⟩
    obtain ⟨m0, m1, m2⟩ := Ws.cells HL.out hy
    have f0 := Ws.free HL.out ((p + j) * 3)
    have f1 := Ws.free HL.out ((p + j) * 3 + 1)
    have f2 := Ws.free HL.out ((p + j) * 3 + 2)
    have t1 : ((p : Int) + (j : Int)).toNat = p + j := by omega
    have t0 : (0 : Int) ≤ (p : Int) + (j : Int) := by omega
    have t2 : (p : Int) + (j : Int) < 416 := by omega
    have t3 : IntKind.i64.wrap ((p : Int) + (j : Int)) = (p : Int) + (j : Int) := IntWalk.i64_in _ (by omega)
    have HML := hid hML
    clear hcx hq5 hu hy hbl huo hML hp
    go_upto_region 20 with fail
    refine wp_region_held_drew (S := fun w' => (w'.cell? ⟨nl, 0, none⟩ = some (.int .i64 3) ∧ w'.cell? ⟨nl, 1, none⟩ = some (.int .i64 8) ∧ w'.cell? ⟨nl, 2, none⟩ = some (.int .i64 1)) ∧ (w'.cell? ⟨g9, j * 3, none⟩ = some (.int .i64 u1) ∧ w'.cell? ⟨g9, j * 3 + 1, none⟩ = some (.int .u32 u2) ∧ w'.cell? ⟨g9, j * 3 + 2, none⟩ = some (.int .u32 u3))) (by kernel_rfl) (by exact ⟨⟨(show Grn g wr _ from by (show Grn _ _ _; repeat (first | with_reducible exact Grn.refl | with_reducible refine Grn.setCell ?_ _ _ | with_reducible refine Grn.ext ?_ _ | with_reducible refine Grn.alloc ?_ _ | with_reducible refine Grn.drew ?_))).cell hgn2 l0, (show Grn g wr _ from by (show Grn _ _ _; repeat (first | with_reducible exact Grn.refl | with_reducible refine Grn.setCell ?_ _ _ | with_reducible refine Grn.ext ?_ _ | with_reducible refine Grn.alloc ?_ _ | with_reducible refine Grn.drew ?_))).cell hgn2 l1, (show Grn g wr _ from by (show Grn _ _ _; repeat (first | with_reducible exact Grn.refl | with_reducible refine Grn.setCell ?_ _ _ | with_reducible refine Grn.ext ?_ _ | with_reducible refine Grn.alloc ?_ _ | with_reducible refine Grn.drew ?_))).cell hgn2 l2⟩, (show Grn g wr _ from by (show Grn _ _ _; repeat (first | with_reducible exact Grn.refl | with_reducible refine Grn.setCell ?_ _ _ | with_reducible refine Grn.ext ?_ _ | with_reducible refine Grn.alloc ?_ _ | with_reducible refine Grn.drew ?_))).cell hg9g k0, (show Grn g wr _ from by (show Grn _ _ _; repeat (first | with_reducible exact Grn.refl | with_reducible refine Grn.setCell ?_ _ _ | with_reducible refine Grn.ext ?_ _ | with_reducible refine Grn.alloc ?_ _ | with_reducible refine Grn.drew ?_))).cell hg9g k1, (show Grn g wr _ from by (show Grn _ _ _; repeat (first | with_reducible exact Grn.refl | with_reducible refine Grn.setCell ?_ _ _ | with_reducible refine Grn.ext ?_ _ | with_reducible refine Grn.alloc ?_ _ | with_reducible refine Grn.drew ?_))).cell hg9g k2⟩) (fun hHeld => ?_)
    refine take_met 0 (oi := ⟨_, _, _, _, _, _⟩) (v := ?_) (by kernel_rfl) rfl (by rfl) (fun _ _ _ h => h) (by assumption) ?_ ?_
    rotate_left 1
    · intro w hSw
      try dsimp only at hSw
      go_simp
      try with_reducible rfl
    (try simp only [Act.put, List.setIfInBounds_toArray, List.set_cons_zero, List.set_cons_succ])
    refine take_met 1 (oi := ⟨_, _, _, _, _, _⟩) (v := ?_) (by kernel_rfl) rfl (by rfl) (fun _ _ _ h => h) (by assumption) ?_ ?_
    rotate_left 1
    · intro w hSw
      try dsimp only at hSw
      go_simp
      try with_reducible rfl
    (try simp only [Act.put, List.setIfInBounds_toArray, List.set_cons_zero, List.set_cons_succ])
    refine take_met 2 (oi := ⟨_, _, _, _, _, _⟩) (v := ?_) (by kernel_rfl) rfl (by rfl) (fun _ _ _ h => h) (by assumption) ?_ ?_
    rotate_left 1
    · intro w hSw
      try dsimp only at hSw
      go_simp
      try with_reducible rfl
    (try simp only [Act.put, List.setIfInBounds_toArray, List.set_cons_zero, List.set_cons_succ])
    refine take_met 3 (oi := ⟨_, _, _, _, _, _⟩) (v := ?_) (by kernel_rfl) rfl (by rfl) (fun _ _ _ h => h) (by assumption) ?_ ?_
    rotate_left 1
    · intro w hSw
      try dsimp only at hSw
      go_simp
      try with_reducible rfl
    (try simp only [Act.put, List.setIfInBounds_toArray, List.set_cons_zero, List.set_cons_succ])
    refine take_met 5 (oi := ⟨_, _, _, _, _, _⟩) (v := ?_) (by kernel_rfl) rfl (by rfl) (fun _ _ _ h => h) (by assumption) ?_ ?_
    rotate_left 1
    · intro w hSw
      try dsimp only at hSw
      go_simp
      try with_reducible rfl
    (try simp only [Act.put, List.setIfInBounds_toArray, List.set_cons_zero, List.set_cons_succ])
    refine take_met 7 (oi := ⟨_, _, _, _, _, _⟩) (v := ?_) (by kernel_rfl) rfl (by rfl) (fun _ _ _ h => h) (by assumption) ?_ ?_
    rotate_left 1
    · intro w hSw
      try dsimp only at hSw
      go_simp
      try with_reducible rfl
    (try simp only [Act.put, List.setIfInBounds_toArray, List.set_cons_zero, List.set_cons_succ])
    refine take_met 8 (oi := ⟨_, _, _, _, _, _⟩) (v := ?_) (by kernel_rfl) rfl (by rfl) (fun _ _ _ h => h) (by assumption) ?_ ?_
    rotate_left 1
    · intro w hSw
      try dsimp only at hSw
      go_simp
      try with_reducible rfl
    (try simp only [Act.put, List.setIfInBounds_toArray, List.set_cons_zero, List.set_cons_succ])
    refine take_met 9 (oi := ⟨_, _, _, _, _, _⟩) (v := ?_) (by kernel_rfl) rfl (by rfl) (fun _ _ _ h => h) (by assumption) ?_ ?_
    rotate_left 1
    · intro w hSw
      try dsimp only at hSw
      go_simp
      try with_reducible rfl
    (try simp only [Act.put, List.setIfInBounds_toArray, List.set_cons_zero, List.set_cons_succ])
    refine take_met 10 (oi := ⟨_, _, _, _, _, _⟩) (v := ?_) (by kernel_rfl) rfl (by rfl) (fun _ _ _ h => h) (by assumption) ?_ ?_
    rotate_left 1
    · intro w hSw
      try dsimp only at hSw
      go_simp
      try with_reducible rfl
    (try simp only [Act.put, List.setIfInBounds_toArray, List.set_cons_zero, List.set_cons_succ])
    refine take_only 4 (oi := ⟨_, _, _, _, _, _⟩) (by kernel_rfl) rfl (fun K hK => ?_)
    go_simp
    first
      | (go_at_call 17; refine (slot_any 3 8 1 ((s : Int) + 1) _ (HS.out.of (HEw.out.trans (by (show Ext _ _; repeat (first | with_reducible (refine Hid.out ?_; assumption) | with_reducible exact Ext.refl _ | with_reducible refine Ext.ext ?_ _ | with_reducible refine Ext.alloc ?_ _ | refine Ext.drew ?_ | refine Ext.drewN ?_ _ | exact Ext.refl _)))))).mono ?_; rintro e w' ⟨rfl, r9, rfl⟩; rw [HSl.out])
    have hOld := hHeld
    clear hHeld
    refine hK.out _ _ (by exact ⟨⟨(show Grn g wr _ from by (show Grn _ _ _; repeat (first | with_reducible exact Grn.refl | with_reducible refine Grn.setCell ?_ _ _ | with_reducible refine Grn.ext ?_ _ | with_reducible refine Grn.alloc ?_ _ | with_reducible refine Grn.drew ?_))).cell hgn2 l0, (show Grn g wr _ from by (show Grn _ _ _; repeat (first | with_reducible exact Grn.refl | with_reducible refine Grn.setCell ?_ _ _ | with_reducible refine Grn.ext ?_ _ | with_reducible refine Grn.alloc ?_ _ | with_reducible refine Grn.drew ?_))).cell hgn2 l1, (show Grn g wr _ from by (show Grn _ _ _; repeat (first | with_reducible exact Grn.refl | with_reducible refine Grn.setCell ?_ _ _ | with_reducible refine Grn.ext ?_ _ | with_reducible refine Grn.alloc ?_ _ | with_reducible refine Grn.drew ?_))).cell hgn2 l2⟩, (show Grn g wr _ from by (show Grn _ _ _; repeat (first | with_reducible exact Grn.refl | with_reducible refine Grn.setCell ?_ _ _ | with_reducible refine Grn.ext ?_ _ | with_reducible refine Grn.alloc ?_ _ | with_reducible refine Grn.drew ?_))).cell hg9g k0, (show Grn g wr _ from by (show Grn _ _ _; repeat (first | with_reducible exact Grn.refl | with_reducible refine Grn.setCell ?_ _ _ | with_reducible refine Grn.ext ?_ _ | with_reducible refine Grn.alloc ?_ _ | with_reducible refine Grn.drew ?_))).cell hg9g k1, (show Grn g wr _ from by (show Grn _ _ _; repeat (first | with_reducible exact Grn.refl | with_reducible refine Grn.setCell ?_ _ _ | with_reducible refine Grn.ext ?_ _ | with_reducible refine Grn.alloc ?_ _ | with_reducible refine Grn.drew ?_))).cell hg9g k2⟩) (fun hHeld => ?_)
    clear hOld hK K
    (try simp only [Act.put, List.setIfInBounds_toArray, List.set_cons_zero, List.set_cons_succ])
    refine take_met 6 (oi := ⟨_, _, _, _, _, _⟩) (v := ?_) (by kernel_rfl) rfl (by rfl) (fun _ _ _ h => h) (by assumption) ?_ ?_
    rotate_left 1
    · intro w hSw
      try dsimp only at hSw
      go_simp
      try with_reducible rfl
    (try simp only [Act.put, List.setIfInBounds_toArray, List.set_cons_zero, List.set_cons_succ])
    refine take_met 11 (oi := ⟨_, _, _, _, _, _⟩) (v := ?_) (by kernel_rfl) rfl (by rfl) (fun _ _ _ h => h) (by assumption) ?_ ?_
    rotate_left 1
    · intro w hSw
      try dsimp only at hSw
      go_simp
      try with_reducible rfl
    (try simp only [Act.put, List.setIfInBounds_toArray, List.set_cons_zero, List.set_cons_succ])
    refine take_only 12 (oi := ⟨_, _, _, _, _, _⟩) (by kernel_rfl) rfl (fun K hK => ?_)
    go_simp
    have hOld := hHeld
    clear hHeld
    refine hK.out _ _ (by exact ⟨⟨(show Grn g wr _ from by (show Grn _ _ _; repeat (first | with_reducible exact Grn.refl | with_reducible refine Grn.setCell ?_ _ _ | with_reducible refine Grn.ext ?_ _ | with_reducible refine Grn.alloc ?_ _ | with_reducible refine Grn.drew ?_))).cell hgn2 l0, (show Grn g wr _ from by (show Grn _ _ _; repeat (first | with_reducible exact Grn.refl | with_reducible refine Grn.setCell ?_ _ _ | with_reducible refine Grn.ext ?_ _ | with_reducible refine Grn.alloc ?_ _ | with_reducible refine Grn.drew ?_))).cell hgn2 l1, (show Grn g wr _ from by (show Grn _ _ _; repeat (first | with_reducible exact Grn.refl | with_reducible refine Grn.setCell ?_ _ _ | with_reducible refine Grn.ext ?_ _ | with_reducible refine Grn.alloc ?_ _ | with_reducible refine Grn.drew ?_))).cell hgn2 l2⟩, (show Grn g wr _ from by (show Grn _ _ _; repeat (first | with_reducible exact Grn.refl | with_reducible refine Grn.setCell ?_ _ _ | with_reducible refine Grn.ext ?_ _ | with_reducible refine Grn.alloc ?_ _ | with_reducible refine Grn.drew ?_))).cell hg9g k0, (show Grn g wr _ from by (show Grn _ _ _; repeat (first | with_reducible exact Grn.refl | with_reducible refine Grn.setCell ?_ _ _ | with_reducible refine Grn.ext ?_ _ | with_reducible refine Grn.alloc ?_ _ | with_reducible refine Grn.drew ?_))).cell hg9g k1, (show Grn g wr _ from by (show Grn _ _ _; repeat (first | with_reducible exact Grn.refl | with_reducible refine Grn.setCell ?_ _ _ | with_reducible refine Grn.ext ?_ _ | with_reducible refine Grn.alloc ?_ _ | with_reducible refine Grn.drew ?_))).cell hg9g k2⟩) (fun hHeld => ?_)
    clear hOld hK K
    (try simp only [Act.put, List.setIfInBounds_toArray, List.set_cons_zero, List.set_cons_succ])
    refine wpAnyH_done (by kernel_rfl) ?_ _
    go_wp2_with fail
    go_roundw
    case rel => exact ⟨j + 1, M3.set (p + j) (u1, u2, u3), by omega, by go_num, hid (HI.out.set _ HUo.out), hid (Ws.put (HL.out.of (by (show Ext _ _; repeat (first | with_reducible (refine Hid.out ?_; assumption) | with_reducible exact Ext.refl _ | with_reducible refine Ext.ext ?_ _ | with_reducible refine Ext.alloc ?_ _ | refine Ext.drew ?_ | refine Ext.drewN ?_ _ | exact Ext.refl _)))) (by rw [HML.out]; omega) u1 u2 u3), hid ((((HG.out.trans (Grn.of_ext (by (show Ext _ _; repeat (first | with_reducible (refine Hid.out ?_; assumption) | with_reducible exact Ext.refl _ | with_reducible refine Ext.ext ?_ _ | with_reducible refine Ext.alloc ?_ _ | refine Ext.drew ?_ | refine Ext.drewN ?_ _ | exact Ext.refl _))))).setCell _ _).setCell _ _).setCell _ _)⟩
    case measure => simp [intOf]; omega
  have hdj : decide (j < D.length) = false := decide_eq_false hjd
  obtain rfl : j = D.length := by omega
  have HI4 := hid HI.out
  have HL4 := hid HL.out
  have HG4 := hid HG.out
  clear hj hjd HI HL HG HEw HBlw hgw l0 l1 l2 l4
  go_wp2_with fail
  go_loopw [12] (fun i wk => ∃ (k : Nat) (M : List Wd), k ≤ E.length ∧ i = .int .i64 k ∧ Hid (Im M) ∧ Hid (Ws wk w.heap.size (.slice (some ⟨g, 0, none⟩) 416 c5) M) ∧ Hid (Grn g V wk)) (fun i _ => E.length - (intOf i).toNat)
  case atStart => exact ⟨0, _, by omega, rfl, HI4, HL4, HG4⟩
  case round =>
  clear HI4 HL4 HG4
  obtain ⟨k, M4, hk, rfl, HI, HL, HG⟩ := hrel
  have HEw := hid (HEV.out.grn HG.out (by omega))
  have HBcw := hid (HBcV.out.grn HG.out (by omega))
  have HGt := hid (HGV.out.trans HG.out)
  have hgw : g < wr.heap.size := Nat.lt_of_lt_of_le hgV HG.out.size
  by_cases hke : k < E.length
  rotate_left
  · have hdk : decide (k < E.length) = false := decide_eq_false hke
    go_wp2_with fail
    go_roundw
    case rel => exact ⟨s + 1, M4, by omega, by go_num, HI, HL, HGt⟩
    case measure => simp [intOf]; omega
  have hdk : decide (k < E.length) = true := decide_eq_true hke
  have hki : (k : Int) < (E.length : Int) := by omega
  obtain ⟨⟨x1, x2, x3, x4, x5, x6⟩, hx⟩ : ∃ x, E[k]? = some x := ⟨_, List.getElem?_eq_getElem hke⟩
  obtain ⟨hxo, hxl, hxh⟩ := HEo.out _ (List.mem_of_getElem? hx)
  dsimp only at hxl hxh
  obtain ⟨p, rfl⟩ := Int.eq_ofNat_of_zero_le (show 0 ≤ x1 by omega)
  obtain ⟨hq5, be, oe, hab, hbe, hcx⟩ := Sl.at (HEsV.out.grnV enE_len HG.out HApE.out) hx
  have hbeg : be ≠ g := by subst hab; have := HApE.out _ _ _ rfl; simpa using this
  subst hab
  clear hq5
  have e0 := hcx 0 (by omega)
  have e1 := hcx 1 (by omega)
  have e2 := hcx 2 (by omega)
  have e3 := hcx 3 (by omega)
  simp [enE] at e0 e1 e2 e3
  have hML := HI.out.1
  obtain ⟨⟨y1, y2, y3⟩, hy⟩ : ∃ y, M4[p]? = some y := ⟨_, List.getElem?_eq_getElem (by rw [hML]; omega)⟩
  have HMy := hid hy
  have hyo := HI.out.2 _ (List.mem_of_getElem? hy)
  have HYo := hid hyo
  obtain ⟨m0, m1, m2⟩ := Ws.cells HL.out hy
  have f2 := Ws.free HL.out (p * 3 + 2)
  have t2 : (p : Int) < 416 := by omega
  have c12 := HBcw.out.2.2 12 _ rfl
  have c13 := HBcw.out.1
  have hne := neq_word y1 y2 y3 x2 x3 x4
  have hga := eq_guard_word
  have q0 : wr.cell? ⟨bm, om + s, none⟩ = some (.slice ia il.length ic) := HEw.out.cell HQ0.out
  clear hcx hx hy hyo hML hxo
  go_upto_region 24 with fail
  cases hwd : wdB (y1, y2, y3) (x2, x3, x4)
  · rw [hwd] at hne
    clear hwd
    refine wp_region_held_drew (S := fun w' => (w'.cell? ⟨be, oe + k * 6, none⟩ = some (.int .i64 p) ∧ w'.cell? ⟨be, oe + k * 6 + 1, none⟩ = some (.int .i64 x2) ∧ w'.cell? ⟨be, oe + k * 6 + 2, none⟩ = some (.int .u32 x3) ∧ w'.cell? ⟨be, oe + k * 6 + 3, none⟩ = some (.int .u32 x4)) ∧ (w'.cell? ⟨g, p * 3, none⟩ = some (.int .i64 y1) ∧ w'.cell? ⟨g, p * 3 + 1, none⟩ = some (.int .u32 y2) ∧ w'.cell? ⟨g, p * 3 + 2, none⟩ = some (.int .u32 y3))) (by kernel_rfl) (by exact ⟨⟨(show Ext wr _ by (show Ext _ _; repeat (first | with_reducible (refine Hid.out ?_; assumption) | with_reducible exact Ext.refl _ | with_reducible refine Ext.ext ?_ _ | with_reducible refine Ext.alloc ?_ _ | with_reducible refine Ext.drew ?_ | with_reducible refine Ext.setCell ?_ (by (try dsimp only); first | omega | (simp; done) | (simp; omega)) _))).cell e0, (show Ext wr _ by (show Ext _ _; repeat (first | with_reducible (refine Hid.out ?_; assumption) | with_reducible exact Ext.refl _ | with_reducible refine Ext.ext ?_ _ | with_reducible refine Ext.alloc ?_ _ | with_reducible refine Ext.drew ?_ | with_reducible refine Ext.setCell ?_ (by (try dsimp only); first | omega | (simp; done) | (simp; omega)) _))).cell e1, (show Ext wr _ by (show Ext _ _; repeat (first | with_reducible (refine Hid.out ?_; assumption) | with_reducible exact Ext.refl _ | with_reducible refine Ext.ext ?_ _ | with_reducible refine Ext.alloc ?_ _ | with_reducible refine Ext.drew ?_ | with_reducible refine Ext.setCell ?_ (by (try dsimp only); first | omega | (simp; done) | (simp; omega)) _))).cell e2, (show Ext wr _ by (show Ext _ _; repeat (first | with_reducible (refine Hid.out ?_; assumption) | with_reducible exact Ext.refl _ | with_reducible refine Ext.ext ?_ _ | with_reducible refine Ext.alloc ?_ _ | with_reducible refine Ext.drew ?_ | with_reducible refine Ext.setCell ?_ (by (try dsimp only); first | omega | (simp; done) | (simp; omega)) _))).cell e3⟩, (show Ext wr _ by (show Ext _ _; repeat (first | with_reducible (refine Hid.out ?_; assumption) | with_reducible exact Ext.refl _ | with_reducible refine Ext.ext ?_ _ | with_reducible refine Ext.alloc ?_ _ | with_reducible refine Ext.drew ?_ | with_reducible refine Ext.setCell ?_ (by (try dsimp only); first | omega | (simp; done) | (simp; omega)) _))).cell m0, (show Ext wr _ by (show Ext _ _; repeat (first | with_reducible (refine Hid.out ?_; assumption) | with_reducible exact Ext.refl _ | with_reducible refine Ext.ext ?_ _ | with_reducible refine Ext.alloc ?_ _ | with_reducible refine Ext.drew ?_ | with_reducible refine Ext.setCell ?_ (by (try dsimp only); first | omega | (simp; done) | (simp; omega)) _))).cell m1, (show Ext wr _ by (show Ext _ _; repeat (first | with_reducible (refine Hid.out ?_; assumption) | with_reducible exact Ext.refl _ | with_reducible refine Ext.ext ?_ _ | with_reducible refine Ext.alloc ?_ _ | with_reducible refine Ext.drew ?_ | with_reducible refine Ext.setCell ?_ (by (try dsimp only); first | omega | (simp; done) | (simp; omega)) _))).cell m2⟩) (fun hHeld => ?_)
    refine take_met 0 (oi := ⟨_, _, _, _, _, _⟩) (v := ?_) (by kernel_rfl) rfl (by rfl) (fun _ _ _ h => h) (by assumption) ?_ ?_
    rotate_left 1
    · intro w hSw
      try dsimp only at hSw
      go_simp
      try with_reducible rfl
    (try simp only [Act.put, List.setIfInBounds_toArray, List.set_cons_zero, List.set_cons_succ])
    refine take_met 1 (oi := ⟨_, _, _, _, _, _⟩) (v := ?_) (by kernel_rfl) rfl (by rfl) (fun _ _ _ h => h) (by assumption) ?_ ?_
    rotate_left 1
    · intro w hSw
      try dsimp only at hSw
      go_simp
      try with_reducible rfl
    (try simp only [Act.put, List.setIfInBounds_toArray, List.set_cons_zero, List.set_cons_succ])
    refine take_met 2 (oi := ⟨_, _, _, _, _, _⟩) (v := ?_) (by kernel_rfl) rfl (by rfl) (fun _ _ _ h => h) (by assumption) ?_ ?_
    rotate_left 1
    · intro w hSw
      try dsimp only at hSw
      go_simp
      try with_reducible rfl
    (try simp only [Act.put, List.setIfInBounds_toArray, List.set_cons_zero, List.set_cons_succ])
    refine take_met 3 (oi := ⟨_, _, _, _, _, _⟩) (v := ?_) (by kernel_rfl) rfl (by rfl) (fun _ _ _ h => h) (by assumption) ?_ ?_
    rotate_left 1
    · intro w hSw
      try dsimp only at hSw
      go_simp
      try with_reducible rfl
    (try simp only [Act.put, List.setIfInBounds_toArray, List.set_cons_zero, List.set_cons_succ])
    refine take_met 4 (oi := ⟨_, _, _, _, _, _⟩) (v := ?_) (by kernel_rfl) rfl (by rfl) (fun _ _ _ h => h) (by assumption) ?_ ?_
    rotate_left 1
    · intro w hSw
      try dsimp only at hSw
      go_simp
      try with_reducible rfl
    (try simp only [Act.put, List.setIfInBounds_toArray, List.set_cons_zero, List.set_cons_succ])
    refine take_met 5 (oi := ⟨_, _, _, _, _, _⟩) (v := ?_) (by kernel_rfl) rfl (by rfl) (fun _ _ _ h => h) (by assumption) ?_ ?_
    rotate_left 1
    · intro w hSw
      try dsimp only at hSw
      go_simp
      try with_reducible rfl
    (try simp only [Act.put, List.setIfInBounds_toArray, List.set_cons_zero, List.set_cons_succ])
    refine take_met 6 (oi := ⟨_, _, _, _, _, _⟩) (v := ?_) (by kernel_rfl) rfl (by rfl) (fun _ _ _ h => h) (by assumption) ?_ ?_
    rotate_left 1
    · intro w hSw
      try dsimp only at hSw
      go_simp
      try with_reducible rfl
    (try simp only [Act.put, List.setIfInBounds_toArray, List.set_cons_zero, List.set_cons_succ])
    refine take_met 7 (oi := ⟨_, _, _, _, _, _⟩) (v := ?_) (by kernel_rfl) rfl (by rfl) (fun _ _ _ h => h) (by assumption) ?_ ?_
    rotate_left 1
    · intro w hSw
      try dsimp only at hSw
      go_simp
      try with_reducible rfl
    (try simp only [Act.put, List.setIfInBounds_toArray, List.set_cons_zero, List.set_cons_succ])
    refine take_met 8 (oi := ⟨_, _, _, _, _, _⟩) (v := ?_) (by kernel_rfl) rfl (by rfl) (fun _ _ _ h => h) (by assumption) ?_ ?_
    rotate_left 1
    · intro w hSw
      try dsimp only at hSw
      go_simp
      try with_reducible rfl
    (try simp only [Act.put, List.setIfInBounds_toArray, List.set_cons_zero, List.set_cons_succ])
    refine take_met 9 (oi := ⟨_, _, _, _, _, _⟩) (v := ?_) (by kernel_rfl) rfl (by rfl) (fun _ _ _ h => h) (by assumption) ?_ ?_
    rotate_left 1
    · intro w hSw
      try dsimp only at hSw
      go_simp
      try with_reducible rfl
    (try simp only [Act.put, List.setIfInBounds_toArray, List.set_cons_zero, List.set_cons_succ])
    refine take_met 10 (oi := ⟨_, _, _, _, _, _⟩) (v := ?_) (by kernel_rfl) rfl (by rfl) (fun _ _ _ h => h) (by assumption) ?_ ?_
    rotate_left 1
    · intro w hSw
      try dsimp only at hSw
      go_simp
      try with_reducible rfl
    (try simp only [Act.put, List.setIfInBounds_toArray, List.set_cons_zero, List.set_cons_succ])
    refine take_met 11 (oi := ⟨_, _, _, _, _, _⟩) (v := ?_) (by kernel_rfl) rfl (by rfl) (fun _ _ _ h => h) (by assumption) ?_ ?_
    rotate_left 1
    · intro w hSw
      try dsimp only at hSw
      go_simp
      try with_reducible rfl
    (try simp only [Act.put, List.setIfInBounds_toArray, List.set_cons_zero, List.set_cons_succ])
    refine take_met 12 (oi := ⟨_, _, _, _, _, _⟩) (v := ?_) (by kernel_rfl) rfl (by rfl) (fun _ _ _ h => h) (by assumption) ?_ ?_
    rotate_left 1
    · intro w hSw
      try dsimp only at hSw
      go_simp
      try with_reducible rfl
    (try simp only [Act.put, List.setIfInBounds_toArray, List.set_cons_zero, List.set_cons_succ])
    refine take_met 13 (oi := ⟨_, _, _, _, _, _⟩) (v := ?_) (by kernel_rfl) rfl (by rfl) (fun _ _ _ h => h) (by assumption) ?_ ?_
    rotate_left 1
    · intro w hSw
      try dsimp only at hSw
      go_simp
      try with_reducible rfl
    (try simp only [Act.put, List.setIfInBounds_toArray, List.set_cons_zero, List.set_cons_succ])
    refine take_met 14 (oi := ⟨_, _, _, _, _, _⟩) (v := ?_) (by kernel_rfl) rfl (by rfl) (fun _ _ _ h => h) (by assumption) ?_ ?_
    rotate_left 1
    · intro w hSw
      try dsimp only at hSw
      go_simp
      try with_reducible rfl
    (try simp only [Act.put, List.setIfInBounds_toArray, List.set_cons_zero, List.set_cons_succ])
    refine take_unmet 15 (oi := ⟨_, _, _, _, _, _⟩) (by kernel_rfl) rfl (by rfl) (fun _ _ _ h => h) (by assumption) ?_
    (try simp only [Act.put, List.setIfInBounds_toArray, List.set_cons_zero, List.set_cons_succ])
    refine take_unmet 16 (oi := ⟨_, _, _, _, _, _⟩) (by kernel_rfl) rfl (by rfl) (fun _ _ _ h => h) (by assumption) ?_
    (try simp only [Act.put, List.setIfInBounds_toArray, List.set_cons_zero, List.set_cons_succ])
    refine take_unmet 17 (oi := ⟨_, _, _, _, _, _⟩) (by kernel_rfl) rfl (by rfl) (fun _ _ _ h => h) (by assumption) ?_
    (try simp only [Act.put, List.setIfInBounds_toArray, List.set_cons_zero, List.set_cons_succ])
    refine take_unmet 18 (oi := ⟨_, _, _, _, _, _⟩) (by kernel_rfl) rfl (by rfl) (fun _ _ _ h => h) (by assumption) ?_
    (try simp only [Act.put, List.setIfInBounds_toArray, List.set_cons_zero, List.set_cons_succ])
    refine take_unmet 19 (oi := ⟨_, _, _, _, _, _⟩) (by kernel_rfl) rfl (by rfl) (fun _ _ _ h => h) (by assumption) ?_
    (try simp only [Act.put, List.setIfInBounds_toArray, List.set_cons_zero, List.set_cons_succ])
    refine take_unmet 20 (oi := ⟨_, _, _, _, _, _⟩) (by kernel_rfl) rfl (by rfl) (fun _ _ _ h => h) (by assumption) ?_
    (try simp only [Act.put, List.setIfInBounds_toArray, List.set_cons_zero, List.set_cons_succ])
    refine take_unmet 21 (oi := ⟨_, _, _, _, _, _⟩) (by kernel_rfl) rfl (by rfl) (fun _ _ _ h => h) (by assumption) ?_
    (try simp only [Act.put, List.setIfInBounds_toArray, List.set_cons_zero, List.set_cons_succ])
    refine take_unmet 22 (oi := ⟨_, _, _, _, _, _⟩) (by kernel_rfl) rfl (by rfl) (fun _ _ _ h => h) (by assumption) ?_
    (try simp only [Act.put, List.setIfInBounds_toArray, List.set_cons_zero, List.set_cons_succ])
    refine take_unmet 23 (oi := ⟨_, _, _, _, _, _⟩) (by kernel_rfl) rfl (by rfl) (fun _ _ _ h => h) (by assumption) ?_
    (try simp only [Act.put, List.setIfInBounds_toArray, List.set_cons_zero, List.set_cons_succ])
    refine take_unmet 24 (oi := ⟨_, _, _, _, _, _⟩) (by kernel_rfl) rfl (by rfl) (fun _ _ _ h => h) (by assumption) ?_
    (try simp only [Act.put, List.setIfInBounds_toArray, List.set_cons_zero, List.set_cons_succ])
    refine take_unmet 25 (oi := ⟨_, _, _, _, _, _⟩) (by kernel_rfl) rfl (by rfl) (fun _ _ _ h => h) (by assumption) ?_
    (try simp only [Act.put, List.setIfInBounds_toArray, List.set_cons_zero, List.set_cons_succ])
    refine take_unmet 26 (oi := ⟨_, _, _, _, _, _⟩) (by kernel_rfl) rfl (by rfl) (fun _ _ _ h => h) (by assumption) ?_
    (try simp only [Act.put, List.setIfInBounds_toArray, List.set_cons_zero, List.set_cons_succ])
    refine take_met 27 (oi := ⟨_, _, _, _, _, _⟩) (v := ?_) (by kernel_rfl) rfl (by rfl) (fun _ _ _ h => h) (by assumption) ?_ ?_
    rotate_left 1
    · intro w hSw
      try dsimp only at hSw
      go_simp
      try with_reducible rfl
    (try simp only [Act.put, List.setIfInBounds_toArray, List.set_cons_zero, List.set_cons_succ])
    refine wpAnyH_done (by kernel_rfl) ?_ _
    go_wp2_with fail
    go_roundw
    case rel => exact ⟨s + 1, M4, by omega, by go_num, HI, hid (HL.out.of (by (show Ext _ _; repeat (first | with_reducible (refine Hid.out ?_; assumption) | with_reducible exact Ext.refl _ | with_reducible refine Ext.ext ?_ _ | with_reducible refine Ext.alloc ?_ _ | refine Ext.drew ?_ | refine Ext.drewN ?_ _ | exact Ext.refl _)))), hid (HGt.out.trans (Grn.of_ext (by (show Ext _ _; repeat (first | with_reducible (refine Hid.out ?_; assumption) | with_reducible exact Ext.refl _ | with_reducible refine Ext.ext ?_ _ | with_reducible refine Ext.alloc ?_ _ | refine Ext.drew ?_ | refine Ext.drewN ?_ _ | exact Ext.refl _)))))⟩
    case measure => simp [intOf]; omega
  rw [hwd] at hne
  clear hwd
  refine wp_region_held_drew (S := fun w' => (w'.cell? ⟨be, oe + k * 6, none⟩ = some (.int .i64 p) ∧ w'.cell? ⟨be, oe + k * 6 + 1, none⟩ = some (.int .i64 x2) ∧ w'.cell? ⟨be, oe + k * 6 + 2, none⟩ = some (.int .u32 x3) ∧ w'.cell? ⟨be, oe + k * 6 + 3, none⟩ = some (.int .u32 x4)) ∧ (w'.cell? ⟨g, p * 3, none⟩ = some (.int .i64 y1) ∧ w'.cell? ⟨g, p * 3 + 1, none⟩ = some (.int .u32 y2) ∧ w'.cell? ⟨g, p * 3 + 2, none⟩ = some (.int .u32 y3)) ∧ w'.cell? ⟨w.heap.size, 12, none⟩ = some (.slice (some ⟨bm, om, none⟩) sw.length sc) ∧ w'.cell? ⟨bm, om + s, none⟩ = some (.slice ia il.length ic)) (by kernel_rfl) (by exact ⟨⟨(show Ext wr _ by (show Ext _ _; repeat (first | with_reducible (refine Hid.out ?_; assumption) | with_reducible exact Ext.refl _ | with_reducible refine Ext.ext ?_ _ | with_reducible refine Ext.alloc ?_ _ | with_reducible refine Ext.drew ?_ | with_reducible refine Ext.setCell ?_ (by (try dsimp only); first | omega | (simp; done) | (simp; omega)) _))).cell e0, (show Ext wr _ by (show Ext _ _; repeat (first | with_reducible (refine Hid.out ?_; assumption) | with_reducible exact Ext.refl _ | with_reducible refine Ext.ext ?_ _ | with_reducible refine Ext.alloc ?_ _ | with_reducible refine Ext.drew ?_ | with_reducible refine Ext.setCell ?_ (by (try dsimp only); first | omega | (simp; done) | (simp; omega)) _))).cell e1, (show Ext wr _ by (show Ext _ _; repeat (first | with_reducible (refine Hid.out ?_; assumption) | with_reducible exact Ext.refl _ | with_reducible refine Ext.ext ?_ _ | with_reducible refine Ext.alloc ?_ _ | with_reducible refine Ext.drew ?_ | with_reducible refine Ext.setCell ?_ (by (try dsimp only); first | omega | (simp; done) | (simp; omega)) _))).cell e2, (show Ext wr _ by (show Ext _ _; repeat (first | with_reducible (refine Hid.out ?_; assumption) | with_reducible exact Ext.refl _ | with_reducible refine Ext.ext ?_ _ | with_reducible refine Ext.alloc ?_ _ | with_reducible refine Ext.drew ?_ | with_reducible refine Ext.setCell ?_ (by (try dsimp only); first | omega | (simp; done) | (simp; omega)) _))).cell e3⟩, ⟨(show Ext wr _ by (show Ext _ _; repeat (first | with_reducible (refine Hid.out ?_; assumption) | with_reducible exact Ext.refl _ | with_reducible refine Ext.ext ?_ _ | with_reducible refine Ext.alloc ?_ _ | with_reducible refine Ext.drew ?_ | with_reducible refine Ext.setCell ?_ (by (try dsimp only); first | omega | (simp; done) | (simp; omega)) _))).cell m0, (show Ext wr _ by (show Ext _ _; repeat (first | with_reducible (refine Hid.out ?_; assumption) | with_reducible exact Ext.refl _ | with_reducible refine Ext.ext ?_ _ | with_reducible refine Ext.alloc ?_ _ | with_reducible refine Ext.drew ?_ | with_reducible refine Ext.setCell ?_ (by (try dsimp only); first | omega | (simp; done) | (simp; omega)) _))).cell m1, (show Ext wr _ by (show Ext _ _; repeat (first | with_reducible (refine Hid.out ?_; assumption) | with_reducible exact Ext.refl _ | with_reducible refine Ext.ext ?_ _ | with_reducible refine Ext.alloc ?_ _ | with_reducible refine Ext.drew ?_ | with_reducible refine Ext.setCell ?_ (by (try dsimp only); first | omega | (simp; done) | (simp; omega)) _))).cell m2⟩, (show Ext wr _ by (show Ext _ _; repeat (first | with_reducible (refine Hid.out ?_; assumption) | with_reducible exact Ext.refl _ | with_reducible refine Ext.ext ?_ _ | with_reducible refine Ext.alloc ?_ _ | with_reducible refine Ext.drew ?_ | with_reducible refine Ext.setCell ?_ (by (try dsimp only); first | omega | (simp; done) | (simp; omega)) _))).cell c12, (show Ext wr _ by (show Ext _ _; repeat (first | with_reducible (refine Hid.out ?_; assumption) | with_reducible exact Ext.refl _ | with_reducible refine Ext.ext ?_ _ | with_reducible refine Ext.alloc ?_ _ | with_reducible refine Ext.drew ?_ | with_reducible refine Ext.setCell ?_ (by (try dsimp only); first | omega | (simp; done) | (simp; omega)) _))).cell q0⟩) (fun hHeld => ?_)
  refine take_met 0 (oi := ⟨_, _, _, _, _, _⟩) (v := ?_) (by kernel_rfl) rfl (by rfl) (fun _ _ _ h => h) (by assumption) ?_ ?_
  rotate_left 1
  · intro w hSw
    try dsimp only at hSw
    go_simp
    try with_reducible rfl
  (try simp only [Act.put, List.setIfInBounds_toArray, List.set_cons_zero, List.set_cons_succ])
  refine take_met 1 (oi := ⟨_, _, _, _, _, _⟩) (v := ?_) (by kernel_rfl) rfl (by rfl) (fun _ _ _ h => h) (by assumption) ?_ ?_
  rotate_left 1
  · intro w hSw
    try dsimp only at hSw
    go_simp
    try with_reducible rfl
  (try simp only [Act.put, List.setIfInBounds_toArray, List.set_cons_zero, List.set_cons_succ])
  refine take_met 2 (oi := ⟨_, _, _, _, _, _⟩) (v := ?_) (by kernel_rfl) rfl (by rfl) (fun _ _ _ h => h) (by assumption) ?_ ?_
  rotate_left 1
  · intro w hSw
    try dsimp only at hSw
    go_simp
    try with_reducible rfl
  (try simp only [Act.put, List.setIfInBounds_toArray, List.set_cons_zero, List.set_cons_succ])
  refine take_met 3 (oi := ⟨_, _, _, _, _, _⟩) (v := ?_) (by kernel_rfl) rfl (by rfl) (fun _ _ _ h => h) (by assumption) ?_ ?_
  rotate_left 1
  · intro w hSw
    try dsimp only at hSw
    go_simp
    try with_reducible rfl
  (try simp only [Act.put, List.setIfInBounds_toArray, List.set_cons_zero, List.set_cons_succ])
  refine take_met 4 (oi := ⟨_, _, _, _, _, _⟩) (v := ?_) (by kernel_rfl) rfl (by rfl) (fun _ _ _ h => h) (by assumption) ?_ ?_
  rotate_left 1
  · intro w hSw
    try dsimp only at hSw
    go_simp
    try with_reducible rfl
  (try simp only [Act.put, List.setIfInBounds_toArray, List.set_cons_zero, List.set_cons_succ])
  refine take_met 5 (oi := ⟨_, _, _, _, _, _⟩) (v := ?_) (by kernel_rfl) rfl (by rfl) (fun _ _ _ h => h) (by assumption) ?_ ?_
  rotate_left 1
  · intro w hSw
    try dsimp only at hSw
    go_simp
    try with_reducible rfl
  (try simp only [Act.put, List.setIfInBounds_toArray, List.set_cons_zero, List.set_cons_succ])
  refine take_met 6 (oi := ⟨_, _, _, _, _, _⟩) (v := ?_) (by kernel_rfl) rfl (by rfl) (fun _ _ _ h => h) (by assumption) ?_ ?_
  rotate_left 1
  · intro w hSw
    try dsimp only at hSw
    go_simp
    try with_reducible rfl
  (try simp only [Act.put, List.setIfInBounds_toArray, List.set_cons_zero, List.set_cons_succ])
  refine take_met 7 (oi := ⟨_, _, _, _, _, _⟩) (v := ?_) (by kernel_rfl) rfl (by rfl) (fun _ _ _ h => h) (by assumption) ?_ ?_
  rotate_left 1
  · intro w hSw
    try dsimp only at hSw
    go_simp
    try with_reducible rfl
  (try simp only [Act.put, List.setIfInBounds_toArray, List.set_cons_zero, List.set_cons_succ])
  refine take_met 8 (oi := ⟨_, _, _, _, _, _⟩) (v := ?_) (by kernel_rfl) rfl (by rfl) (fun _ _ _ h => h) (by assumption) ?_ ?_
  rotate_left 1
  · intro w hSw
    try dsimp only at hSw
    go_simp
    try with_reducible rfl
  (try simp only [Act.put, List.setIfInBounds_toArray, List.set_cons_zero, List.set_cons_succ])
  refine take_met 9 (oi := ⟨_, _, _, _, _, _⟩) (v := ?_) (by kernel_rfl) rfl (by rfl) (fun _ _ _ h => h) (by assumption) ?_ ?_
  rotate_left 1
  · intro w hSw
    try dsimp only at hSw
    go_simp
    try with_reducible rfl
  (try simp only [Act.put, List.setIfInBounds_toArray, List.set_cons_zero, List.set_cons_succ])
  refine take_met 10 (oi := ⟨_, _, _, _, _, _⟩) (v := ?_) (by kernel_rfl) rfl (by rfl) (fun _ _ _ h => h) (by assumption) ?_ ?_
  rotate_left 1
  · intro w hSw
    try dsimp only at hSw
    go_simp
    try with_reducible rfl
  (try simp only [Act.put, List.setIfInBounds_toArray, List.set_cons_zero, List.set_cons_succ])
  refine take_met 11 (oi := ⟨_, _, _, _, _, _⟩) (v := ?_) (by kernel_rfl) rfl (by rfl) (fun _ _ _ h => h) (by assumption) ?_ ?_
  rotate_left 1
  · intro w hSw
    try dsimp only at hSw
    go_simp
    try with_reducible rfl
  (try simp only [Act.put, List.setIfInBounds_toArray, List.set_cons_zero, List.set_cons_succ])
  refine take_met 12 (oi := ⟨_, _, _, _, _, _⟩) (v := ?_) (by kernel_rfl) rfl (by rfl) (fun _ _ _ h => h) (by assumption) ?_ ?_
  rotate_left 1
  · intro w hSw
    try dsimp only at hSw
    go_simp
    try with_reducible rfl
  (try simp only [Act.put, List.setIfInBounds_toArray, List.set_cons_zero, List.set_cons_succ])
  refine take_met 13 (oi := ⟨_, _, _, _, _, _⟩) (v := ?_) (by kernel_rfl) rfl (by rfl) (fun _ _ _ h => h) (by assumption) ?_ ?_
  rotate_left 1
  · intro w hSw
    try dsimp only at hSw
    go_simp
    try with_reducible rfl
  (try simp only [Act.put, List.setIfInBounds_toArray, List.set_cons_zero, List.set_cons_succ])
  refine take_met 14 (oi := ⟨_, _, _, _, _, _⟩) (v := ?_) (by kernel_rfl) rfl (by rfl) (fun _ _ _ h => h) (by assumption) ?_ ?_
  rotate_left 1
  · intro w hSw
    try dsimp only at hSw
    go_simp
    try with_reducible rfl
  (try simp only [Act.put, List.setIfInBounds_toArray, List.set_cons_zero, List.set_cons_succ])
  refine take_met 15 (oi := ⟨_, _, _, _, _, _⟩) (v := ?_) (by kernel_rfl) rfl (by rfl) (fun _ _ _ h => h) (by assumption) ?_ ?_
  rotate_left 1
  · intro w hSw
    try dsimp only at hSw
    go_simp
    try with_reducible rfl
  (try simp only [Act.put, List.setIfInBounds_toArray, List.set_cons_zero, List.set_cons_succ])
  refine take_met 16 (oi := ⟨_, _, _, _, _, _⟩) (v := ?_) (by kernel_rfl) rfl (by rfl) (fun _ _ _ h => h) (by assumption) ?_ ?_
  rotate_left 1
  · intro w hSw
    try dsimp only at hSw
    go_simp
    try with_reducible rfl
  (try simp only [Act.put, List.setIfInBounds_toArray, List.set_cons_zero, List.set_cons_succ])
  refine take_met 17 (oi := ⟨_, _, _, _, _, _⟩) (v := ?_) (by kernel_rfl) rfl (by rfl) (fun _ _ _ h => h) (by assumption) ?_ ?_
  rotate_left 1
  · intro w hSw
    try dsimp only at hSw
    go_simp
    try with_reducible rfl
  (try simp only [Act.put, List.setIfInBounds_toArray, List.set_cons_zero, List.set_cons_succ])
  refine take_met 18 (oi := ⟨_, _, _, _, _, _⟩) (v := ?_) (by kernel_rfl) rfl (by rfl) (fun _ _ _ h => h) (by assumption) ?_ ?_
  rotate_left 1
  · intro w hSw
    try dsimp only at hSw
    go_simp
    try with_reducible rfl
  (try simp only [Act.put, List.setIfInBounds_toArray, List.set_cons_zero, List.set_cons_succ])
  refine take_met 19 (oi := ⟨_, _, _, _, _, _⟩) (v := ?_) (by kernel_rfl) rfl (by rfl) (fun _ _ _ h => h) (by assumption) ?_ ?_
  rotate_left 1
  · intro w hSw
    try dsimp only at hSw
    go_simp
    try with_reducible rfl
  (try simp only [Act.put, List.setIfInBounds_toArray, List.set_cons_zero, List.set_cons_succ])
  refine take_met 20 (oi := ⟨_, _, _, _, _, _⟩) (v := ?_) (by kernel_rfl) rfl (by rfl) (fun _ _ _ h => h) (by assumption) ?_ ?_
  rotate_left 1
  · intro w hSw
    try dsimp only at hSw
    go_simp
    try with_reducible rfl
  (try simp only [Act.put, List.setIfInBounds_toArray, List.set_cons_zero, List.set_cons_succ])
  refine take_met 21 (oi := ⟨_, _, _, _, _, _⟩) (v := ?_) (by kernel_rfl) rfl (by rfl) (fun _ _ _ h => h) (by assumption) ?_ ?_
  rotate_left 1
  · intro w hSw
    try dsimp only at hSw
    go_simp
    try with_reducible rfl
  (try simp only [Act.put, List.setIfInBounds_toArray, List.set_cons_zero, List.set_cons_succ])
  refine take_met 22 (oi := ⟨_, _, _, _, _, _⟩) (v := ?_) (by kernel_rfl) rfl (by rfl) (fun _ _ _ h => h) (by assumption) ?_ ?_
  rotate_left 1
  · intro w hSw
    try dsimp only at hSw
    go_simp
    try with_reducible rfl
  (try simp only [Act.put, List.setIfInBounds_toArray, List.set_cons_zero, List.set_cons_succ])
  refine take_met 23 (oi := ⟨_, _, _, _, _, _⟩) (v := ?_) (by kernel_rfl) rfl (by rfl) (fun _ _ _ h => h) (by assumption) ?_ ?_
  rotate_left 1
  · intro w hSw
    try dsimp only at hSw
    go_simp
    try with_reducible rfl
  (try simp only [Act.put, List.setIfInBounds_toArray, List.set_cons_zero, List.set_cons_succ])
  refine take_met 24 (oi := ⟨_, _, _, _, _, _⟩) (v := ?_) (by kernel_rfl) rfl (by rfl) (fun _ _ _ h => h) (by assumption) ?_ ?_
  rotate_left 1
  · intro w hSw
    try dsimp only at hSw
    go_simp
    try with_reducible rfl
  (try simp only [Act.put, List.setIfInBounds_toArray, List.set_cons_zero, List.set_cons_succ])
  refine take_only 25 (oi := ⟨_, _, _, _, _, _⟩) (by kernel_rfl) rfl (fun K hK => ?_)
  go_simp
  first
    | (go_at_call 53; refine (asks20_any il _ p HIo.out (by omega) _ (HS.out.of (HEw.out.trans (by (show Ext _ _; repeat (first | with_reducible (refine Hid.out ?_; assumption) | with_reducible exact Ext.refl _ | with_reducible refine Ext.ext ?_ _ | with_reducible refine Ext.alloc ?_ _ | refine Ext.drew ?_ | refine Ext.drewN ?_ _ | exact Ext.refl _))))) (HIt.out.of itE_len (HEw.out.trans (by (show Ext _ _; repeat (first | with_reducible (refine Hid.out ?_; assumption) | with_reducible exact Ext.refl _ | with_reducible refine Ext.ext ?_ _ | with_reducible refine Ext.alloc ?_ _ | refine Ext.drew ?_ | refine Ext.drewN ?_ _ | exact Ext.refl _)))))).mono ?_; rintro e w' ⟨⟨ab, rfl⟩, r10, rfl⟩)
  have hOld := hHeld
  clear hHeld
  refine hK.out _ _ (by exact ⟨⟨(show Ext wr _ by (show Ext _ _; repeat (first | with_reducible (refine Hid.out ?_; assumption) | with_reducible exact Ext.refl _ | with_reducible refine Ext.ext ?_ _ | with_reducible refine Ext.alloc ?_ _ | with_reducible refine Ext.drew ?_ | with_reducible refine Ext.setCell ?_ (by (try dsimp only); first | omega | (simp; done) | (simp; omega)) _))).cell e0, (show Ext wr _ by (show Ext _ _; repeat (first | with_reducible (refine Hid.out ?_; assumption) | with_reducible exact Ext.refl _ | with_reducible refine Ext.ext ?_ _ | with_reducible refine Ext.alloc ?_ _ | with_reducible refine Ext.drew ?_ | with_reducible refine Ext.setCell ?_ (by (try dsimp only); first | omega | (simp; done) | (simp; omega)) _))).cell e1, (show Ext wr _ by (show Ext _ _; repeat (first | with_reducible (refine Hid.out ?_; assumption) | with_reducible exact Ext.refl _ | with_reducible refine Ext.ext ?_ _ | with_reducible refine Ext.alloc ?_ _ | with_reducible refine Ext.drew ?_ | with_reducible refine Ext.setCell ?_ (by (try dsimp only); first | omega | (simp; done) | (simp; omega)) _))).cell e2, (show Ext wr _ by (show Ext _ _; repeat (first | with_reducible (refine Hid.out ?_; assumption) | with_reducible exact Ext.refl _ | with_reducible refine Ext.ext ?_ _ | with_reducible refine Ext.alloc ?_ _ | with_reducible refine Ext.drew ?_ | with_reducible refine Ext.setCell ?_ (by (try dsimp only); first | omega | (simp; done) | (simp; omega)) _))).cell e3⟩, ⟨(show Ext wr _ by (show Ext _ _; repeat (first | with_reducible (refine Hid.out ?_; assumption) | with_reducible exact Ext.refl _ | with_reducible refine Ext.ext ?_ _ | with_reducible refine Ext.alloc ?_ _ | with_reducible refine Ext.drew ?_ | with_reducible refine Ext.setCell ?_ (by (try dsimp only); first | omega | (simp; done) | (simp; omega)) _))).cell m0, (show Ext wr _ by (show Ext _ _; repeat (first | with_reducible (refine Hid.out ?_; assumption) | with_reducible exact Ext.refl _ | with_reducible refine Ext.ext ?_ _ | with_reducible refine Ext.alloc ?_ _ | with_reducible refine Ext.drew ?_ | with_reducible refine Ext.setCell ?_ (by (try dsimp only); first | omega | (simp; done) | (simp; omega)) _))).cell m1, (show Ext wr _ by (show Ext _ _; repeat (first | with_reducible (refine Hid.out ?_; assumption) | with_reducible exact Ext.refl _ | with_reducible refine Ext.ext ?_ _ | with_reducible refine Ext.alloc ?_ _ | with_reducible refine Ext.drew ?_ | with_reducible refine Ext.setCell ?_ (by (try dsimp only); first | omega | (simp; done) | (simp; omega)) _))).cell m2⟩, (show Ext wr _ by (show Ext _ _; repeat (first | with_reducible (refine Hid.out ?_; assumption) | with_reducible exact Ext.refl _ | with_reducible refine Ext.ext ?_ _ | with_reducible refine Ext.alloc ?_ _ | with_reducible refine Ext.drew ?_ | with_reducible refine Ext.setCell ?_ (by (try dsimp only); first | omega | (simp; done) | (simp; omega)) _))).cell c12, (show Ext wr _ by (show Ext _ _; repeat (first | with_reducible (refine Hid.out ?_; assumption) | with_reducible exact Ext.refl _ | with_reducible refine Ext.ext ?_ _ | with_reducible refine Ext.alloc ?_ _ | with_reducible refine Ext.drew ?_ | with_reducible refine Ext.setCell ?_ (by (try dsimp only); first | omega | (simp; done) | (simp; omega)) _))).cell q0⟩) (fun hHeld => ?_)
  clear hOld hK K
  (try simp only [Act.put, List.setIfInBounds_toArray, List.set_cons_zero, List.set_cons_succ])
  refine take_met 26 (oi := ⟨_, _, _, _, _, _⟩) (v := ?_) (by kernel_rfl) rfl (by rfl) (fun _ _ _ h => h) (by assumption) ?_ ?_
  rotate_left 1
  · intro w hSw
    try dsimp only at hSw
    go_simp
    try with_reducible rfl
  (try simp only [Act.put, List.setIfInBounds_toArray, List.set_cons_zero, List.set_cons_succ])
  refine take_met 27 (oi := ⟨_, _, _, _, _, _⟩) (v := ?_) (by kernel_rfl) rfl (by rfl) (fun _ _ _ h => h) (by assumption) ?_ ?_
  rotate_left 1
  · intro w hSw
    try dsimp only at hSw
    go_simp
    try with_reducible rfl
  (try simp only [Act.put, List.setIfInBounds_toArray, List.set_cons_zero, List.set_cons_succ])
  refine wpAnyH_done (by kernel_rfl) ?_ _
  clear hHeld
  cases ab
  · go_wp2_with fail
    go_roundw
    case rel => exact ⟨s + 1, M4, by omega, by go_num, HI, hid (HL.out.of (by (show Ext _ _; repeat (first | with_reducible (refine Hid.out ?_; assumption) | with_reducible exact Ext.refl _ | with_reducible refine Ext.ext ?_ _ | with_reducible refine Ext.alloc ?_ _ | refine Ext.drew ?_ | refine Ext.drewN ?_ _ | exact Ext.refl _)))), hid (HGt.out.trans (Grn.of_ext (by (show Ext _ _; repeat (first | with_reducible (refine Hid.out ?_; assumption) | with_reducible exact Ext.refl _ | with_reducible refine Ext.ext ?_ _ | with_reducible refine Ext.alloc ?_ _ | refine Ext.drew ?_ | refine Ext.drewN ?_ _ | exact Ext.refl _)))))⟩
    case measure => simp [intOf]; omega
  generalize hZ : ext _ r10 = Z
  have HEZ0 := hid (show Ext wr Z by rw [← hZ]; (show Ext _ _; repeat (first | with_reducible (refine Hid.out ?_; assumption) | with_reducible exact Ext.refl _ | with_reducible refine Ext.ext ?_ _ | with_reducible refine Ext.alloc ?_ _ | refine Ext.drew ?_ | refine Ext.drewN ?_ _ | exact Ext.refl _)))
  have HEZ := hid (HEw.out.trans HEZ0.out)
  have HLZ := hid (HL.out.of HEZ0.out)
  have HGZ := hid (HG.out.trans (Grn.of_ext HEZ0.out))
  have n0 := HEZ0.out.cell e0
  obtain ⟨m0', m1', m2'⟩ := Ws.cells HLZ.out HMy.out
  have f2' := Ws.free HLZ.out (p * 3 + 2)
  have hgZ : g < Z.heap.size := Nat.lt_of_lt_of_le hgw HEZ0.out.size
  have hbeZ : be < Z.heap.size := Nat.lt_of_lt_of_le hbe HEZ0.out.size
  clear hZ hne m0 m1 m2 f2 e0 e1 e2 e3 c12 c13 q0
  go_upto_region 25 with fail
  refine wp_region_held_drew (S := fun w' => w'.cell? ⟨be, oe + k * 6, none⟩ = some (.int .i64 p)) (by kernel_rfl) (by exact (show Grn g Z _ from by (show Grn _ _ _; repeat (first | with_reducible exact Grn.refl | with_reducible refine Grn.setCell ?_ _ _ | with_reducible refine Grn.ext ?_ _ | with_reducible refine Grn.alloc ?_ _ | with_reducible refine Grn.drew ?_))).cell hbeg n0) (fun hHeld => ?_)
  refine take_met 0 (oi := ⟨_, _, _, _, _, _⟩) (v := ?_) (by kernel_rfl) rfl (by rfl) (fun _ _ _ h => h) (by assumption) ?_ ?_
  rotate_left 1
  · intro w hSw
    try dsimp only at hSw
    go_simp
    try with_reducible rfl
  (try simp only [Act.put, List.setIfInBounds_toArray, List.set_cons_zero, List.set_cons_succ])
  refine take_met 1 (oi := ⟨_, _, _, _, _, _⟩) (v := ?_) (by kernel_rfl) rfl (by rfl) (fun _ _ _ h => h) (by assumption) ?_ ?_
  rotate_left 1
  · intro w hSw
    try dsimp only at hSw
    go_simp
    try with_reducible rfl
  (try simp only [Act.put, List.setIfInBounds_toArray, List.set_cons_zero, List.set_cons_succ])
  refine take_met 2 (oi := ⟨_, _, _, _, _, _⟩) (v := ?_) (by kernel_rfl) rfl (by rfl) (fun _ _ _ h => h) (by assumption) ?_ ?_
  rotate_left 1
  · intro w hSw
    try dsimp only at hSw
    go_simp
    try with_reducible rfl
  (try simp only [Act.put, List.setIfInBounds_toArray, List.set_cons_zero, List.set_cons_succ])
  refine take_met 3 (oi := ⟨_, _, _, _, _, _⟩) (v := ?_) (by kernel_rfl) rfl (by rfl) (fun _ _ _ h => h) (by assumption) ?_ ?_
  rotate_left 1
  · intro w hSw
    try dsimp only at hSw
    go_simp
    try with_reducible rfl
  (try simp only [Act.put, List.setIfInBounds_toArray, List.set_cons_zero, List.set_cons_succ])
  refine take_met 4 (oi := ⟨_, _, _, _, _, _⟩) (v := ?_) (by kernel_rfl) rfl (by rfl) (fun _ _ _ h => h) (by assumption) ?_ ?_
  rotate_left 1
  · intro w hSw
    try dsimp only at hSw
    go_simp
    try with_reducible rfl
  (try simp only [Act.put, List.setIfInBounds_toArray, List.set_cons_zero, List.set_cons_succ])
  refine take_met 5 (oi := ⟨_, _, _, _, _, _⟩) (v := ?_) (by kernel_rfl) rfl (by rfl) (fun _ _ _ h => h) (by assumption) ?_ ?_
  rotate_left 1
  · intro w hSw
    try dsimp only at hSw
    go_simp
    try with_reducible rfl
  (try simp only [Act.put, List.setIfInBounds_toArray, List.set_cons_zero, List.set_cons_succ])
  refine take_met 6 (oi := ⟨_, _, _, _, _, _⟩) (v := ?_) (by kernel_rfl) rfl (by rfl) (fun _ _ _ h => h) (by assumption) ?_ ?_
  rotate_left 1
  · intro w hSw
    try dsimp only at hSw
    go_simp
    try with_reducible rfl
  (try simp only [Act.put, List.setIfInBounds_toArray, List.set_cons_zero, List.set_cons_succ])
  refine take_met 7 (oi := ⟨_, _, _, _, _, _⟩) (v := ?_) (by kernel_rfl) rfl (by rfl) (fun _ _ _ h => h) (by assumption) ?_ ?_
  rotate_left 1
  · intro w hSw
    try dsimp only at hSw
    go_simp
    try with_reducible rfl
  (try simp only [Act.put, List.setIfInBounds_toArray, List.set_cons_zero, List.set_cons_succ])
  refine take_only 8 (oi := ⟨_, _, _, _, _, _⟩) (by kernel_rfl) rfl (fun K hK => ?_)
  go_simp
  first
    | (go_at_call 54; refine (ref20_any s (by omega) _).mono ?_; rintro e w' ⟨rfl, r11, rfl⟩)
  have hOld := hHeld
  clear hHeld
  refine hK.out _ _ (by exact (show Grn g Z _ from by (show Grn _ _ _; repeat (first | with_reducible exact Grn.refl | with_reducible refine Grn.setCell ?_ _ _ | with_reducible refine Grn.ext ?_ _ | with_reducible refine Grn.alloc ?_ _ | with_reducible refine Grn.drew ?_))).cell hbeg n0) (fun hHeld => ?_)
  clear hOld hK K
  (try simp only [Act.put, List.setIfInBounds_toArray, List.set_cons_zero, List.set_cons_succ])
  refine take_met 9 (oi := ⟨_, _, _, _, _, _⟩) (v := ?_) (by kernel_rfl) rfl (by rfl) (fun _ _ _ h => h) (by assumption) ?_ ?_
  rotate_left 1
  · intro w hSw
    try dsimp only at hSw
    go_simp
    try with_reducible rfl
  (try simp only [Act.put, List.setIfInBounds_toArray, List.set_cons_zero, List.set_cons_succ])
  refine take_met 10 (oi := ⟨_, _, _, _, _, _⟩) (v := ?_) (by kernel_rfl) rfl (by rfl) (fun _ _ _ h => h) (by assumption) ?_ ?_
  rotate_left 1
  · intro w hSw
    try dsimp only at hSw
    go_simp
    try with_reducible rfl
  (try simp only [Act.put, List.setIfInBounds_toArray, List.set_cons_zero, List.set_cons_succ])
  refine take_only 11 (oi := ⟨_, _, _, _, _, _⟩) (by kernel_rfl) rfl (fun K hK => ?_)
  go_simp
  have hOld := hHeld
  clear hHeld
  refine hK.out _ _ (by exact (show Grn g Z _ from by (show Grn _ _ _; repeat (first | with_reducible exact Grn.refl | with_reducible refine Grn.setCell ?_ _ _ | with_reducible refine Grn.ext ?_ _ | with_reducible refine Grn.alloc ?_ _ | with_reducible refine Grn.drew ?_))).cell hbeg n0) (fun hHeld => ?_)
  clear hOld hK K
  (try simp only [Act.put, List.setIfInBounds_toArray, List.set_cons_zero, List.set_cons_succ])
  refine wpAnyH_done (by kernel_rfl) ?_ _
  go_wp2_with fail
  go_roundw
  case rel => exact ⟨k + 1, M4.set p (y1, y2, ((s : Int) + 1) * 16777216 + 1), by omega, by go_num, hid (HI.out.set _ ⟨HYo.out.1, HYo.out.2.1, ⟨by dsimp only; omega, by dsimp only; omega⟩⟩), hid (Own.set wdE_len (HLZ.out.of (by (show Ext _ _; repeat (first | with_reducible (refine Hid.out ?_; assumption) | with_reducible exact Ext.refl _ | with_reducible refine Ext.ext ?_ _ | with_reducible refine Ext.alloc ?_ _ | refine Ext.drew ?_ | refine Ext.drewN ?_ _ | exact Ext.refl _)))) HMy.out (y1, y2, ((s : Int) + 1) * 16777216 + 1) (j := 2) (by omega) (.int .u32 (((s : Int) + 1) * 16777216 + 1)) rfl rfl), hid ((HGZ.out.trans (Grn.of_ext (by (show Ext _ _; repeat (first | with_reducible (refine Hid.out ?_; assumption) | with_reducible exact Ext.refl _ | with_reducible refine Ext.ext ?_ _ | with_reducible refine Ext.alloc ?_ _ | refine Ext.drew ?_ | refine Ext.drewN ?_ _ | exact Ext.refl _))))).setCell _ _)⟩
  case measure => simp [intOf]; omega
end

end Go.Proofs.YtfijnpfhffhffaaDoor
