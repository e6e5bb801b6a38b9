/- The walk of the statement LayoutApart. -/
import Derived.Test.YtoaghifcgjpijaaDoorApartB
namespace Go.Proofs.YtoaghifcgjpijaaDoor
open Go.RowKit

theorem at_val {T C B : Nat} {p : Nat} {i more : Int} (hr : rightN T C B = true) (h0 : 0 ≤ i) (h1 : i < manyN T C B p) : atN T C B p i more = fromN T C B p + i * szN p + more := by
  unfold atN; rw [if_pos ⟨hr, h0, h1⟩]
/-- What has been named before thread k + 1's h-th own word, r-th record word, s-th slot word. -/
def Vt (T G4 k h r s : Nat) (a : Int) : Prop := (0 ≤ a ∧ a < 2) ∨ (8 ≤ a ∧ a < 8 + 8 * (k : Int) + h) ∨ (8 + 8 * (T : Int) ≤ a ∧ a < 8 + 8 * (T : Int) + 8 * k + r) ∨ (8 * (G4 : Int) ≤ a ∧ a < 8 * (G4 : Int) + 104 * k + s)
def Vc (T G4 i : Nat) (a : Int) : Prop := Vt T G4 T 0 0 0 a ∨ (8 + 16 * (T : Int) ≤ a ∧ a < 8 + 16 * (T : Int) + i)
def Vb (G5 G6 i k : Nat) (a : Int) : Prop := a < 8 * (G5 : Int) ∨ (8 * (G6 : Int) ≤ a ∧ a < 8 * (G6 : Int) + 32 * i + k)
theorem all_ne : (ByteArray.mk #[97, 108, 108]).toList.isEmpty = false ∧ (ByteArray.mk #[97, 108, 108]).size ≤ 16 := ⟨by simp, by decide⟩
theorem cells_ne : (ByteArray.mk #[99, 101, 108, 108, 115]).toList.isEmpty = false ∧ (ByteArray.mk #[99, 101, 108, 108, 115]).size ≤ 16 := ⟨by simp, by decide⟩

set_option maxRecDepth 100000 in
set_option maxHeartbeats 2000000 in
theorem lapart_any (x y z : Int) (hx : 0 ≤ x ∧ x ≤ 255) (hy : 0 ≤ y ∧ y ≤ 255) (hz : 0 ≤ z ∧ z ≤ 255) (w : World) (hs : Szs w) :
    Calls Tryd.prog 5 #[.int .u8 x, .int .u8 y, .int .u8 z] w fun e w' => e = .returned (.bool true) ∧ ∃ r, w' = ext w r := by
  have HS := hid hs
  obtain ⟨hx0, hx1⟩ := hx
  obtain ⟨hy0, hy1⟩ := hy
  obtain ⟨hz0, hz1⟩ := hz
  clear hs
  have hmm := @run_makeMap Tryd.prog
  go_enter Tryd.func5, Tryd.ntmps5
  go_wp2_with fail
  go_call (check_any (x % 8 + 1) (y + 1) (z % 65) _ (HS.out.of (by (show Ext _ _; repeat (first | with_reducible exact Ext.refl _ | with_reducible refine Ext.ext ?_ _ | with_reducible refine Ext.alloc ?_ _ | refine Ext.drew ?_ | refine Ext.drewN ?_ _ | exact Ext.refl _))))) as e w' ⟨rfl, r1, rfl⟩
  obtain ⟨T, hT⟩ : ∃ T : Nat, x % 8 + 1 = (T : Int) := ⟨(x % 8 + 1).toNat, by omega⟩
  obtain ⟨C, hC⟩ : ∃ C : Nat, y + 1 = (C : Int) := ⟨(y + 1).toNat, by omega⟩
  obtain ⟨B, hB⟩ : ∃ B : Nat, z % 65 = (B : Int) := ⟨(z % 65).toNat, by omega⟩
  rw [hT, hC, hB]
  clear hT hC hB
  have HW := hid (show Ext w (ext (w.alloc (.cells #[.int .i64 (T : Int), .int .i64 (C : Int), .int .i64 (B : Int)] 23)) r1) by (show Ext _ _; repeat (first | with_reducible exact Ext.refl _ | with_reducible refine Ext.ext ?_ _ | with_reducible refine Ext.alloc ?_ _ | refine Ext.drew ?_ | refine Ext.drewN ?_ _ | exact Ext.refl _)))
  have hl := hid (show w.heap.size < (ext (w.alloc (.cells #[.int .i64 (T : Int), .int .i64 (C : Int), .int .i64 (B : Int)] 23)) r1).heap.size by simp; omega)
  have l0 : (ext (w.alloc (.cells #[.int .i64 (T : Int), .int .i64 (C : Int), .int .i64 (B : Int)] 23)) r1).cell? ⟨w.heap.size, 0, none⟩ = some (.int .i64 (T : Int)) := by simp [go_sem]
  have l1 : (ext (w.alloc (.cells #[.int .i64 (T : Int), .int .i64 (C : Int), .int .i64 (B : Int)] 23)) r1).cell? ⟨w.heap.size, 1, none⟩ = some (.int .i64 (C : Int)) := by simp [go_sem]
  have l2 : (ext (w.alloc (.cells #[.int .i64 (T : Int), .int .i64 (C : Int), .int .i64 (B : Int)] 23)) r1).cell? ⟨w.heap.size, 2, none⟩ = some (.int .i64 (B : Int)) := by simp [go_sem]
  generalize (ext (w.alloc (.cells #[.int .i64 (T : Int), .int .i64 (C : Int), .int .i64 (B : Int)] 23)) r1) = W at *
  have HS1 := hid (HS.out.of HW.out)
  have hl9 := hl.out
  by_cases hc : checkN T C B = 0
  rotate_left
  · have hne : (checkN T C B != 0) = true := by simpa using hc
    have HZ := hid (show sizeN T C B = 0 by unfold sizeN rightN; simp [hc])
    clear hc
    go_wp2_with fail
    go_call (awake_any _ (HS1.out.of (by (show Ext _ _; repeat (first | with_reducible exact Ext.refl _ | with_reducible refine Ext.ext ?_ _ | with_reducible refine Ext.alloc ?_ _ | refine Ext.drew ?_ | refine Ext.drewN ?_ _ | exact Ext.refl _))))) as e w' ⟨rfl, r2, rfl⟩
    go_wp2_with fail
    go_call (size_any T C B _ (HS1.out.of (by (show Ext _ _; repeat (first | with_reducible exact Ext.refl _ | with_reducible refine Ext.ext ?_ _ | with_reducible refine Ext.alloc ?_ _ | refine Ext.drew ?_ | refine Ext.drewN ?_ _ | exact Ext.refl _))))) as e w' ⟨rfl, r3, rfl⟩
    rw [HZ.out]
    go_wp2_with fail
    go_ret
    exact ⟨rfl, HW.out.trans (by (show Ext _ _; repeat (first | with_reducible exact Ext.refl _ | with_reducible refine Ext.ext ?_ _ | with_reducible refine Ext.alloc ?_ _ | refine Ext.drew ?_ | refine Ext.drewN ?_ _ | exact Ext.refl _)))⟩
  have hr : rightN T C B = true := by unfold rightN; rw [hc]; rfl
  rw [hc]
  clear hc
  obtain ⟨G4, G5, G6, ⟨f1, f2, f3, f4, f5, f6⟩, hG5, hG6, hsz, hsz2, hG4, hG4', hT1, hT8, hC1, hC2, hB64⟩ := nums hr
  have HR := hid hr
  have HSZ := hid hsz
  have hszb : sizeN T C B ≤ 4096 := by omega
  have HSB := hid hszb
  have f0 : fromN T C B 0 = 0 := rfl
  have HCk := hid (show atN T C B 0 0 0 = 0 by rw [at_val hr (by omega) (by simp [manyN]), f0]; rfl)
  have HEr := hid (show atN T C B 0 0 1 = 1 by rw [at_val hr (by omega) (by simp [manyN]), f0]; rfl)
  have HAn := hid (fun (k : Nat) (hk : k < T) => show atN T C B 1 (wrap64 ((k : Int) + 1 - 1)) 0 = 8 * ((k : Int) + 1) by
    rw [IntWalk.wrap64_in _ ⟨by omega, by omega⟩, at_val hr (by omega) (by simp [manyN]; omega), f1]; simp [szN]; omega)
  have HHz := hid (fun (k : Nat) (hk : k < T) => show atN T C B 1 (wrap64 ((k : Int) + 1 - 1)) 1 = 8 * ((k : Int) + 1) + 1 by
    rw [IntWalk.wrap64_in _ ⟨by omega, by omega⟩, at_val hr (by omega) (by simp [manyN]; omega), f1]; simp [szN]; omega)
  have HRc := hid (fun (k : Nat) (hk : k < T) => show atN T C B 2 (wrap64 ((k : Int) + 1 - 1)) 0 = 8 * ((T : Int) + k + 1) by
    rw [IntWalk.wrap64_in _ ⟨by omega, by omega⟩, at_val hr (by omega) (by simp [manyN]; omega), f2]; simp [szN]; omega)
  have HSl := hid (fun (k : Nat) (hk : k < T) => show atN T C B 4 (wrap64 ((k : Int) + 1 - 1)) 0 = 8 * (G4 : Int) + 104 * k by
    rw [IntWalk.wrap64_in _ ⟨by omega, by omega⟩, at_val hr (by omega) (by simp [manyN]; omega), f4]; simp [szN]; omega)
  have HCe := hid (fun (k : Nat) (hk : k < C) => show atN T C B 3 k 0 = 8 + 16 * (T : Int) + k by
    rw [at_val hr (by omega) (by simp [manyN]; omega), f3]; simp [szN])
  have HBl := hid (fun (k : Nat) (hk : k < B) => show atN T C B 6 k 0 = 8 * (G6 : Int) + 32 * k by
    rw [at_val hr (by omega) (by simp [manyN]; omega), f6]; simp [szN]; omega)
  have HBt := hid (fun (i : Nat) (hi : i < B) => show ∃ p q : Int, bitsN T C B i = (p, q) ∧ 0 ≤ p ∧ 0 < q by
    refine ⟨fromN T C B 5 + (i : Int) / 32, 2 ^ ((i : Int) % 32).toNat, by unfold bitsN; rw [if_pos ⟨hr, by omega, by omega⟩], by omega, Int.pow_pos (by omega)⟩)
  clear hr hsz hszb f0 f1 f2 f3 f4 f5 f6
  go_wp2_with fail
  rw [show W.heap.size + 1 + 1 + 1 + 1 = W.heap.size + 4 from rfl, show W.heap.size + 1 + 1 + 1 = W.heap.size + 3 from rfl, show W.heap.size + 1 + 1 = W.heap.size + 2 from rfl]
  have G0 : Hid (Good W (((((W.alloc (.map #[] 0)).alloc (.map #[] 0)).alloc (.cells #[.map (some W.heap.size)] 42)).alloc (.cells #[.map (some (W.heap.size + 1))] 43)).alloc (.cells #[.bool true] 4)) 0 (fun _ => False) (own T G4 G5 G6)) := hid ⟨0, fun _ => false, fun _ => ByteArray.empty, ⟨by (show Ext _ _; repeat (first | with_reducible exact Ext.refl _ | with_reducible refine Ext.ext ?_ _ | with_reducible refine Ext.alloc ?_ _ | refine Ext.drew ?_ | refine Ext.drewN ?_ _ | exact Ext.refl _)), by simp [go_sem], by simp [go_sem], by simp [go_sem], by simp [go_sem], MapF.of (elBool Tryd.prog 4 Tryd.underlying4 Tryd.zeroBool) (MapF.made (elBool Tryd.prog 4 Tryd.underlying4 Tryd.zeroBool) W _ rfl) (by (show Ext _ _; repeat (first | with_reducible exact Ext.refl _ | with_reducible refine Ext.ext ?_ _ | with_reducible refine Ext.alloc ?_ _ | refine Ext.drew ?_ | refine Ext.drewN ?_ _ | exact Ext.refl _))), MapF.of (elStr Tryd.prog 9 Tryd.underlying9 Tryd.zeroStr) (MapF.made (elStr Tryd.prog 9 Tryd.underlying9 Tryd.zeroStr) (W.alloc (.map #[] 0)) _ (by simp)) (by (show Ext _ _; repeat (first | with_reducible exact Ext.refl _ | with_reducible refine Ext.ext ?_ _ | with_reducible refine Ext.alloc ?_ _ | refine Ext.drew ?_ | refine Ext.drewN ?_ _ | exact Ext.refl _))), by simp⟩, Nat.le_refl _, fun a h => by simp at h, fun l => .inl rfl⟩
  generalize (((((W.alloc (.map #[] 0)).alloc (.map #[] 0)).alloc (.cells #[.map (some W.heap.size)] 42)).alloc (.cells #[.map (some (W.heap.size + 1))] 43)).alloc (.cells #[.bool true] 4)) = X0 at *
  have d0 := G0.out.ext.cell l0
  have d1 := G0.out.ext.cell l1
  have d2 := G0.out.ext.cell l2
  have d6 := Nat.lt_of_lt_of_le hl9 G0.out.ext.size
  go_call (clock_any T C B _ (Szs.of HS1.out (G0.out.ext.trans (by (show Ext _ _; repeat (first | with_reducible exact Ext.refl _ | with_reducible refine Ext.ext ?_ _ | with_reducible refine Ext.alloc ?_ _ | refine Ext.drew ?_ | refine Ext.drewN ?_ _ | exact Ext.refl _)))))) as e w' ⟨rfl, s1, rfl⟩
  rw [HCk.out]
  go_wp2_with fail
  go_call (name_good T C B w.heap.size W _ HS1.out l0 l1 l2 (0) ⟨#[97, 108, 108]⟩ _ _ _ (G0.out.ofx (by (show Ext _ _; repeat (first | with_reducible exact Ext.refl _ | with_reducible refine Ext.ext ?_ _ | with_reducible refine Ext.alloc ?_ _ | refine Ext.drew ?_ | refine Ext.drewN ?_ _ | exact Ext.refl _)))) (by omega) (by omega) (by rw [HSZ.out]; omega) HSB.out (fun h => h) (own_all _ _ _ _ (by omega) (by omega)) all_ne.1 all_ne.2) as e w2 ⟨rfl, hg⟩
  have G1 := hid hg
  clear hg
  clear d0 d1 d2 d6
  have d0 := G1.out.ext.cell l0
  have d1 := G1.out.ext.cell l1
  have d2 := G1.out.ext.cell l2
  have d6 := Nat.lt_of_lt_of_le hl9 G1.out.ext.size
  go_wp2_with fail
  go_call (era_any T C B _ (Szs.of HS1.out (G1.out.ext.trans (by (show Ext _ _; repeat (first | with_reducible exact Ext.refl _ | with_reducible refine Ext.ext ?_ _ | with_reducible refine Ext.alloc ?_ _ | refine Ext.drew ?_ | refine Ext.drewN ?_ _ | exact Ext.refl _)))))) as e w' ⟨rfl, s3, rfl⟩
  rw [HEr.out]
  go_wp2_with fail
  go_call (name_good T C B w.heap.size W _ HS1.out l0 l1 l2 (1) ⟨#[97, 108, 108]⟩ _ _ _ (G1.out.ofx (by (show Ext _ _; repeat (first | with_reducible exact Ext.refl _ | with_reducible refine Ext.ext ?_ _ | with_reducible refine Ext.alloc ?_ _ | refine Ext.drew ?_ | refine Ext.drewN ?_ _ | exact Ext.refl _)))) (by omega) (by omega) (by rw [HSZ.out]; omega) HSB.out (by rintro (h | h); omega; exact h) (own_all _ _ _ _ (by omega) (by omega)) all_ne.1 all_ne.2) as e w4 ⟨rfl, hg⟩
  have G2 := hid hg
  clear hg
  clear d0 d1 d2 d6
  have d0 := G2.out.ext.cell l0
  have d1 := G2.out.ext.cell l1
  have d2 := G2.out.ext.cell l2
  have d6 := Nat.lt_of_lt_of_le hl9 G2.out.ext.size
  go_wp2_with fail
  go_loopw [12] (fun v wr => ∃ k : Nat, k ≤ T ∧ v = .int .i64 ((k : Int) + 1) ∧ Hid (Good W wr (4 + 300 * k) (Vt T G4 k 0 0 0) (own T G4 G5 G6))) (fun v _ => T + 1 - (intOf v).toNat)
  case atStart => exact ⟨0, by omega, by simp, G2.out.mono (by omega) (fun a h => by rcases h with h | h | h; exact .inl (by omega); exact .inl (by omega); exact h.elim)⟩
  case round =>
    clear G0 G1 G2 d0 d1 d2 d6
    obtain ⟨k, hk, rfl, G⟩ := hrel
    have d0 := G.out.ext.cell l0
    have d1 := G.out.ext.cell l1
    have d2 := G.out.ext.cell l2
    have d6 := Nat.lt_of_lt_of_le hl9 G.out.ext.size
    by_cases hkT : k < T
    · have hd : decide ((k : Int) + 1 ≤ (T : Int)) = true := decide_eq_true (by omega)
      have hk7 : (k : Int) ≤ 7 := by omega
      have hcv : (convert 45 9 (.slice (some ⟨wr.heap.size, 0, none⟩) 2 2)).run Tryd.prog (wr.alloc (.cells #[.int .u8 116, .int .u8 (48 + ((k : Int) + 1))] 5)) = .ok (.string (nm 116 (49 + k))) (wr.alloc (.cells #[.int .u8 116, .int .u8 (48 + ((k : Int) + 1))] 5)) :=
        conv_run _ _ 116 (49 + k) (by omega) (by omega) (by simp [go_sem]) (by simp [go_sem]; omega)
      go_wp2_with fail
      clear hcv
      go_call (announce_any T C B ((k : Int) + 1) _ (Szs.of HS1.out (G.out.ext.trans (by (show Ext _ _; repeat (first | with_reducible exact Ext.refl _ | with_reducible refine Ext.ext ?_ _ | with_reducible refine Ext.alloc ?_ _ | refine Ext.drew ?_ | refine Ext.drewN ?_ _ | exact Ext.refl _)))))) as e w' ⟨rfl, s5, rfl⟩
      rw [HAn.out k hkT]
      go_wp2_with fail
      go_call (name_good T C B w.heap.size W _ HS1.out l0 l1 l2 (8 * ((k : Int) + 1)) (nm 116 (49 + k)) _ _ _ (G.out.ofx (by (show Ext _ _; repeat (first | with_reducible exact Ext.refl _ | with_reducible refine Ext.ext ?_ _ | with_reducible refine Ext.alloc ?_ _ | refine Ext.drew ?_ | refine Ext.drewN ?_ _ | exact Ext.refl _)))) (by omega) (by omega) (by rw [HSZ.out]; omega) HSB.out (fun h => by unfold Vt at h; omega) (own_ann hkT (by omega) (by omega)) (nm_ne 116 (49 + k)).1 (nm_ne 116 (49 + k)).2) as e w6 ⟨rfl, hg⟩
      have G1 := hid hg
      clear hg
      clear d0 d1 d2 d6
      have d0 := G1.out.ext.cell l0
      have d1 := G1.out.ext.cell l1
      have d2 := G1.out.ext.cell l2
      have d6 := Nat.lt_of_lt_of_le hl9 G1.out.ext.size
      go_wp2_with fail
      go_call (hazard_any T C B ((k : Int) + 1) _ (Szs.of HS1.out (G1.out.ext.trans (by (show Ext _ _; repeat (first | with_reducible exact Ext.refl _ | with_reducible refine Ext.ext ?_ _ | with_reducible refine Ext.alloc ?_ _ | refine Ext.drew ?_ | refine Ext.drewN ?_ _ | exact Ext.refl _)))))) as e w' ⟨rfl, s7, rfl⟩
      rw [HHz.out k hkT]
      go_wp2_with fail
      go_call (name_good T C B w.heap.size W _ HS1.out l0 l1 l2 (8 * ((k : Int) + 1) + 1) (nm 116 (49 + k)) _ _ _ (G1.out.ofx (by (show Ext _ _; repeat (first | with_reducible exact Ext.refl _ | with_reducible refine Ext.ext ?_ _ | with_reducible refine Ext.alloc ?_ _ | refine Ext.drew ?_ | refine Ext.drewN ?_ _ | exact Ext.refl _)))) (by omega) (by omega) (by rw [HSZ.out]; omega) HSB.out (fun h => by unfold Vt at h; omega) (own_ann hkT (by omega) (by omega)) (nm_ne 116 (49 + k)).1 (nm_ne 116 (49 + k)).2) as e w8 ⟨rfl, hg⟩
      have G2 := hid hg
      clear hg
      clear d0 d1 d2 d6
      have d0 := G2.out.ext.cell l0
      have d1 := G2.out.ext.cell l1
      have d2 := G2.out.ext.cell l2
      have d6 := Nat.lt_of_lt_of_le hl9 G2.out.ext.size
      go_wp2_with fail
      go_loopw [75] (fun v wr => ∃ i : Nat, i ≤ 3 ∧ v = .int .i64 i ∧ Hid (Good W wr (8 + 300 * k + 2 * i) (Vt T G4 k 2 i 0) (own T G4 G5 G6))) (fun v _ => 3 - (intOf v).toNat)
      case atStart => exact ⟨0, by omega, rfl, G2.out.mono (by omega) (fun a h => by unfold Vt at *; omega)⟩
      case round =>
        clear G G1 G2
        obtain ⟨i, hi, rfl, G⟩ := hrel
        clear d0 d1 d2 d6
        have d0 := G.out.ext.cell l0
        have d1 := G.out.ext.cell l1
        have d2 := G.out.ext.cell l2
        have d6 := Nat.lt_of_lt_of_le hl9 G.out.ext.size
        by_cases hi3 : i < 3
        · have hd3 : decide ((i : Int) < 3) = true := decide_eq_true (by omega)
          go_wp2_with fail
          go_call (record_any T C B ((k : Int) + 1) _ (Szs.of HS1.out (G.out.ext.trans (by (show Ext _ _; repeat (first | with_reducible exact Ext.refl _ | with_reducible refine Ext.ext ?_ _ | with_reducible refine Ext.alloc ?_ _ | refine Ext.drew ?_ | refine Ext.drewN ?_ _ | exact Ext.refl _)))))) as e w' ⟨rfl, s9, rfl⟩
          rw [HRc.out k hkT]
          go_wp2_with fail
          go_call (name_good T C B w.heap.size W _ HS1.out l0 l1 l2 (8 * ((T : Int) + k + 1) + i) (nm 116 (49 + k)) _ _ _ (G.out.ofx (by (show Ext _ _; repeat (first | with_reducible exact Ext.refl _ | with_reducible refine Ext.ext ?_ _ | with_reducible refine Ext.alloc ?_ _ | refine Ext.drew ?_ | refine Ext.drewN ?_ _ | exact Ext.refl _)))) (by omega) (by omega) (by rw [HSZ.out]; omega) HSB.out (fun h => by unfold Vt at h; omega) (own_rec hkT (by omega) (by omega)) (nm_ne 116 (49 + k)).1 (nm_ne 116 (49 + k)).2) as e w10 ⟨rfl, hg⟩
          have G1 := hid hg
          clear hg
          clear d0 d1 d2 d6
          have d0 := G1.out.ext.cell l0
          have d1 := G1.out.ext.cell l1
          have d2 := G1.out.ext.cell l2
          have d6 := Nat.lt_of_lt_of_le hl9 G1.out.ext.size
          go_wp2_with fail
          go_roundw
          case rel => exact ⟨i + 1, by omega, by go_num, G1.out.mono (by omega) (fun a h => by unfold Vt at *; omega)⟩
          case measure => simp [intOf]; omega
        · have hd3 : decide ((i : Int) < 3) = false := decide_eq_false (by omega)
          have HI := hid (show i = 3 by omega)
          go_wp2_with fail
          go_loopw [87] (fun v wr => ∃ i : Nat, i ≤ 104 ∧ v = .int .i64 i ∧ Hid (Good W wr (20 + 300 * k + 2 * i) (Vt T G4 k 2 3 i) (own T G4 G5 G6))) (fun v _ => 104 - (intOf v).toNat)
          case atStart => exact ⟨0, by omega, rfl, G.out.mono (by have := HI.out; omega) (fun a h => by have := HI.out; unfold Vt at *; omega)⟩
          case round =>
            clear G hd3 hi hi3 HI
            obtain ⟨i, hi, rfl, G⟩ := hrel
            clear d0 d1 d2 d6
            have d0 := G.out.ext.cell l0
            have d1 := G.out.ext.cell l1
            have d2 := G.out.ext.cell l2
            have d6 := Nat.lt_of_lt_of_le hl9 G.out.ext.size
            by_cases hi3 : i < 104
            · have hd3 : decide ((i : Int) < 104) = true := decide_eq_true (by omega)
              go_wp2_with fail
              go_call (slot_any T C B ((k : Int) + 1) _ (Szs.of HS1.out (G.out.ext.trans (by (show Ext _ _; repeat (first | with_reducible exact Ext.refl _ | with_reducible refine Ext.ext ?_ _ | with_reducible refine Ext.alloc ?_ _ | refine Ext.drew ?_ | refine Ext.drewN ?_ _ | exact Ext.refl _)))))) as e w' ⟨rfl, s11, rfl⟩
              rw [HSl.out k hkT]
              go_wp2_with fail
              go_call (name_good T C B w.heap.size W _ HS1.out l0 l1 l2 (8 * (G4 : Int) + 104 * k + i) (nm 116 (49 + k)) _ _ _ (G.out.ofx (by (show Ext _ _; repeat (first | with_reducible exact Ext.refl _ | with_reducible refine Ext.ext ?_ _ | with_reducible refine Ext.alloc ?_ _ | refine Ext.drew ?_ | refine Ext.drewN ?_ _ | exact Ext.refl _)))) (by omega) (by omega) (by rw [HSZ.out]; omega) HSB.out (fun h => by unfold Vt at h; omega) (own_slot hkT (by omega) hG5 (by omega) (by omega)) (nm_ne 116 (49 + k)).1 (nm_ne 116 (49 + k)).2) as e w12 ⟨rfl, hg⟩
              have G1 := hid hg
              clear hg
              clear d0 d1 d2 d6
              have d0 := G1.out.ext.cell l0
              have d1 := G1.out.ext.cell l1
              have d2 := G1.out.ext.cell l2
              have d6 := Nat.lt_of_lt_of_le hl9 G1.out.ext.size
              go_wp2_with fail
              go_roundw
              case rel => exact ⟨i + 1, by omega, by go_num, G1.out.mono (by omega) (fun a h => by unfold Vt at *; omega)⟩
              case measure => simp [intOf]; omega
            · have hd3 : decide ((i : Int) < 104) = false := decide_eq_false (by omega)
              have HI := hid (show i = 104 by omega)
              go_wp2_with fail
              go_roundw
              case rel => exact ⟨k + 1, by omega, by simp, G.out.mono (by have := HI.out; omega) (fun a h => by have := HI.out; unfold Vt at *; omega)⟩
              case measure => simp [intOf]; omega
    · have hd : decide ((k : Int) + 1 ≤ (T : Int)) = false := decide_eq_false (by omega)
      obtain rfl : T = k := by omega
      go_wp2_with fail
      go_loopw [101] (fun v wr => ∃ i : Nat, i ≤ C ∧ v = .int .i64 i ∧ Hid (Good W wr (4000 + 2 * i) (Vc T G4 i) (own T G4 G5 G6))) (fun v _ => C - (intOf v).toNat)
      case atStart => exact ⟨0, by omega, rfl, G.out.mono (by omega) (fun a h => .inl h)⟩
      case round =>
        clear G hd hk hkT
        obtain ⟨i, hi, rfl, G⟩ := hrel
        clear d0 d1 d2 d6
        have d0 := G.out.ext.cell l0
        have d1 := G.out.ext.cell l1
        have d2 := G.out.ext.cell l2
        have d6 := Nat.lt_of_lt_of_le hl9 G.out.ext.size
        by_cases hlt : i < C
        · have hd : decide (i < C) = true := decide_eq_true hlt
          go_wp2_with fail
          go_call (cell_any T C B i _ (Szs.of HS1.out (G.out.ext.trans (by (show Ext _ _; repeat (first | with_reducible exact Ext.refl _ | with_reducible refine Ext.ext ?_ _ | with_reducible refine Ext.alloc ?_ _ | refine Ext.drew ?_ | refine Ext.drewN ?_ _ | exact Ext.refl _)))))) as e w' ⟨rfl, s13, rfl⟩
          rw [HCe.out i hlt]
          go_wp2_with fail
          go_call (name_good T C B w.heap.size W _ HS1.out l0 l1 l2 (8 + 16 * (T : Int) + i) ⟨#[99, 101, 108, 108, 115]⟩ _ _ _ (G.out.ofx (by (show Ext _ _; repeat (first | with_reducible exact Ext.refl _ | with_reducible refine Ext.ext ?_ _ | with_reducible refine Ext.alloc ?_ _ | refine Ext.drew ?_ | refine Ext.drewN ?_ _ | exact Ext.refl _)))) (by omega) (by omega) (by rw [HSZ.out]; omega) HSB.out (fun h => by unfold Vc Vt at h; omega) (own_cell (by omega) (by omega)) cells_ne.1 cells_ne.2) as e w14 ⟨rfl, hg⟩
          have G1 := hid hg
          clear hg
          clear d0 d1 d2 d6
          have d0 := G1.out.ext.cell l0
          have d1 := G1.out.ext.cell l1
          have d2 := G1.out.ext.cell l2
          have d6 := Nat.lt_of_lt_of_le hl9 G1.out.ext.size
          go_wp2_with fail
          go_roundw
          case rel => exact ⟨i + 1, by omega, by go_num, G1.out.mono (by omega) (fun a h => by unfold Vc Vt at *; omega)⟩
          case measure => simp [intOf]; omega
        · have hd : decide (i < C) = false := decide_eq_false hlt
          obtain rfl : C = i := by omega
          go_wp2_with fail
          go_loopw [112] (fun v wr => ∃ i : Nat, i ≤ B ∧ v = .int .i64 i ∧ Hid (Good W wr (10000 + 100 * i) (Vb G5 G6 i 0) (own T G4 G5 G6))) (fun v _ => B - (intOf v).toNat)
          case atStart => exact ⟨0, by omega, rfl, G.out.mono (by omega) (fun a h => by unfold Vc Vt at h; unfold Vb; omega)⟩
          case round =>
            clear G hd hi hlt
            obtain ⟨i, hi, rfl, G⟩ := hrel
            clear d0 d1 d2 d6
            have d0 := G.out.ext.cell l0
            have d1 := G.out.ext.cell l1
            have d2 := G.out.ext.cell l2
            have d6 := Nat.lt_of_lt_of_le hl9 G.out.ext.size
            obtain ⟨d3, d4, d5⟩ := G.out.ok
            have d9 : W.heap.size + 4 < wr.heap.size := by omega
            by_cases hlt : i < B
            · have hd : decide (i < B) = true := decide_eq_true hlt
              obtain ⟨bp, bq, hbt, hbp, hbq⟩ := HBt.out i hlt
              have HBv := hid hbt
              clear hbt
              go_wp2_with fail
              go_call (bits_any T C B i (by omega) (by omega) _ (Szs.of HS1.out (G.out.ext.trans (by (show Ext _ _; repeat (first | with_reducible exact Ext.refl _ | with_reducible refine Ext.ext ?_ _ | with_reducible refine Ext.alloc ?_ _ | refine Ext.drew ?_ | refine Ext.drewN ?_ _ | exact Ext.refl _)))))) as e w' ⟨rfl, s1, rfl⟩
              rw [HBv.out]
              go_wp2_with fail
              go_loopw [130] (fun v wr => ∃ k : Nat, k ≤ 32 ∧ v = .int .i64 k ∧ Hid (Good W wr (10000 + 100 * i + 2 * k) (Vb G5 G6 i k) (own T G4 G5 G6))) (fun v _ => 32 - (intOf v).toNat)
              case atStart => exact ⟨0, by omega, rfl, ((G.out.ofx (by (show Ext _ _; repeat (first | with_reducible exact Ext.refl _ | with_reducible refine Ext.ext ?_ _ | with_reducible refine Ext.alloc ?_ _ | refine Ext.drew ?_ | refine Ext.drewN ?_ _ | exact Ext.refl _)))).set).mono (by omega) (fun a h => h)⟩
              case round =>
                clear G d3 d4 d5 d9
                obtain ⟨k, hk, rfl, G⟩ := hrel
                clear d0 d1 d2 d6
                have d0 := G.out.ext.cell l0
                have d1 := G.out.ext.cell l1
                have d2 := G.out.ext.cell l2
                have d6 := Nat.lt_of_lt_of_le hl9 G.out.ext.size
                by_cases hk3 : k < 32
                · have hd3 : decide ((k : Int) < 32) = true := decide_eq_true (by omega)
                  have hi63 : (i : Int) ≤ 63 := by omega
                  have hk31 : (k : Int) ≤ 31 := by omega
                  have hcv : ∀ (w0 : World) (n : Nat), w0.cell? ⟨n, 0, none⟩ = some (.int .u8 98) → w0.cell? ⟨n, 1, none⟩ = some (.int .u8 (48 + (i : Int))) → (convert 45 9 (.slice (some ⟨n, 0, none⟩) 2 2)).run Tryd.prog w0 = .ok (.string (nm 98 (48 + i))) w0 :=
                    fun w0 n h0 h1 => conv_run w0 n 98 (48 + i) (by omega) (by omega) h0 (by rw [h1]; simp)
                  have hw0 : 8 * (G6 : Int) + 32 * i + k ≤ 5000 := by omega
                  have hw1 : IntKind.i64.wrap (48 + (i : Int)) = 48 + (i : Int) := IntWalk.i64_in _ (by omega)
                  have hw2 : IntKind.u8.wrap (48 + (i : Int)) = 48 + (i : Int) := by rw [IntKind.wrap_u8]; omega
                  have hw3 : IntKind.i64.wrap (8 * (G6 : Int) + 32 * i + k) = 8 * (G6 : Int) + 32 * i + k := by clear hw1 hw2; exact IntWalk.i64_in _ (by omega)
                  go_wp2_with fail
                  refine wp_region_held_drew (S := fun w' => Ext W w' ∧ w'.cell? ⟨w.heap.size, 0, none⟩ = some (.int .i64 (T : Int)) ∧ w'.cell? ⟨w.heap.size, 1, none⟩ = some (.int .i64 (C : Int)) ∧ w'.cell? ⟨w.heap.size, 2, none⟩ = some (.int .i64 (B : Int))) (by kernel_rfl) ⟨G.out.ext.trans (by (show Ext _ _; repeat (first | with_reducible exact Ext.refl _ | with_reducible refine Ext.ext ?_ _ | with_reducible refine Ext.alloc ?_ _ | refine Ext.drew ?_ | refine Ext.drewN ?_ _ | exact Ext.refl _))), (G.out.ext.trans (by (show Ext _ _; repeat (first | with_reducible exact Ext.refl _ | with_reducible refine Ext.ext ?_ _ | with_reducible refine Ext.alloc ?_ _ | refine Ext.drew ?_ | refine Ext.drewN ?_ _ | exact Ext.refl _)))).cell l0, (G.out.ext.trans (by (show Ext _ _; repeat (first | with_reducible exact Ext.refl _ | with_reducible refine Ext.ext ?_ _ | with_reducible refine Ext.alloc ?_ _ | refine Ext.drew ?_ | refine Ext.drewN ?_ _ | exact Ext.refl _)))).cell l1, (G.out.ext.trans (by (show Ext _ _; repeat (first | with_reducible exact Ext.refl _ | with_reducible refine Ext.ext ?_ _ | with_reducible refine Ext.alloc ?_ _ | refine Ext.drew ?_ | refine Ext.drewN ?_ _ | exact Ext.refl _)))).cell l2⟩ (fun hHeld => ?_)
                  refine take_met 0 (oi := ⟨_, _, _, _, _, _⟩) (v := ?_) (by kernel_rfl) rfl (by rfl) (fun _ _ _ h => h) (by assumption) ?_ ?_
                  rotate_left 1
                  · intro w hSw
                    try dsimp only at hSw
                    go_simp
                    try with_reducible rfl
                  (try simp only [Act.put, List.setIfInBounds_toArray, List.set_cons_zero, List.set_cons_succ])
                  refine take_met 1 (oi := ⟨_, _, _, _, _, _⟩) (v := ?_) (by kernel_rfl) rfl (by rfl) (fun _ _ _ h => h) (by assumption) ?_ ?_
                  rotate_left 1
                  · intro w hSw
                    try dsimp only at hSw
                    go_simp
                    try with_reducible rfl
                  (try simp only [Act.put, List.setIfInBounds_toArray, List.set_cons_zero, List.set_cons_succ])
                  refine take_met 2 (oi := ⟨_, _, _, _, _, _⟩) (v := ?_) (by kernel_rfl) rfl (by rfl) (fun _ _ _ h => h) (by assumption) ?_ ?_
                  rotate_left 1
                  · intro w hSw
                    try dsimp only at hSw
                    go_simp
                    try with_reducible rfl
                  (try simp only [Act.put, List.setIfInBounds_toArray, List.set_cons_zero, List.set_cons_succ])
                  refine take_met 4 (oi := ⟨_, _, _, _, _, _⟩) (v := ?_) (by kernel_rfl) rfl (by rfl) (fun _ _ _ h => h) (by assumption) ?_ ?_
                  rotate_left 1
                  · intro w hSw
                    try dsimp only at hSw
                    go_simp
                    try with_reducible rfl
                  (try simp only [Act.put, List.setIfInBounds_toArray, List.set_cons_zero, List.set_cons_succ])
                  refine take_met 6 (oi := ⟨_, _, _, _, _, _⟩) (v := ?_) (by kernel_rfl) rfl (by rfl) (fun _ _ _ h => h) (by assumption) ?_ ?_
                  rotate_left 1
                  · intro w hSw
                    try dsimp only at hSw
                    go_simp
                    try with_reducible rfl
                  (try simp only [Act.put, List.setIfInBounds_toArray, List.set_cons_zero, List.set_cons_succ])
                  refine take_met 7 (oi := ⟨_, _, _, _, _, _⟩) (v := ?_) (by kernel_rfl) rfl (by rfl) (fun _ _ _ h => h) (by assumption) ?_ ?_
                  rotate_left 1
                  · intro w hSw
                    try dsimp only at hSw
                    go_simp
                    try with_reducible rfl
                  (try simp only [Act.put, List.setIfInBounds_toArray, List.set_cons_zero, List.set_cons_succ])
                  refine take_met 8 (oi := ⟨_, _, _, _, _, _⟩) (v := ?_) (by kernel_rfl) rfl (by rfl) (fun _ _ _ h => h) (by assumption) ?_ ?_
                  rotate_left 1
                  · intro w hSw
                    try dsimp only at hSw
                    go_simp
                    try with_reducible rfl
                  (try simp only [Act.put, List.setIfInBounds_toArray, List.set_cons_zero, List.set_cons_succ])
                  refine wpAnyH_ready (rs := [3, 9]) (by kernel_rfl) (by simp) ?_
                  refine AllReadyH.cons (o := ⟨_, _, _, _, _, _⟩) rfl (fun K hK => ?_) ?_
                  · skip
                    go_simp
                    (go_at_call 24; refine (block_any T C B i _ (Szs.of HS1.out (G.out.ext.trans (by (show Ext _ _; repeat (first | with_reducible exact Ext.refl _ | with_reducible refine Ext.ext ?_ _ | with_reducible refine Ext.alloc ?_ _ | refine Ext.drew ?_ | refine Ext.drewN ?_ _ | exact Ext.refl _)))))).mono ?_; rintro e w' ⟨rfl, s2, rfl⟩; rw [HBl.out i hlt])
                    have hOld := hHeld
                    clear hHeld
                    refine hK.out _ _ (by first | exact ⟨hg.ext, hg.ext.cell l0, hg.ext.cell l1, hg.ext.cell l2⟩ | exact ⟨G.out.ext.trans (by (show Ext _ _; repeat (first | with_reducible exact Ext.refl _ | with_reducible refine Ext.ext ?_ _ | with_reducible refine Ext.alloc ?_ _ | refine Ext.drew ?_ | refine Ext.drewN ?_ _ | exact Ext.refl _))), (G.out.ext.trans (by (show Ext _ _; repeat (first | with_reducible exact Ext.refl _ | with_reducible refine Ext.ext ?_ _ | with_reducible refine Ext.alloc ?_ _ | refine Ext.drew ?_ | refine Ext.drewN ?_ _ | exact Ext.refl _)))).cell l0, (G.out.ext.trans (by (show Ext _ _; repeat (first | with_reducible exact Ext.refl _ | with_reducible refine Ext.ext ?_ _ | with_reducible refine Ext.alloc ?_ _ | refine Ext.drew ?_ | refine Ext.drewN ?_ _ | exact Ext.refl _)))).cell l1, (G.out.ext.trans (by (show Ext _ _; repeat (first | with_reducible exact Ext.refl _ | with_reducible refine Ext.ext ?_ _ | with_reducible refine Ext.alloc ?_ _ | refine Ext.drew ?_ | refine Ext.drewN ?_ _ | exact Ext.refl _)))).cell l2⟩) (fun hHeld => ?_)
                    clear hOld hK K
                    (try simp only [Act.put, List.setIfInBounds_toArray, List.set_cons_zero, List.set_cons_succ])
                    refine take_met 5 (oi := ⟨_, _, _, _, _, _⟩) (v := ?_) (by kernel_rfl) rfl (by rfl) (fun _ _ _ h => h) (by assumption) ?_ ?_
                    rotate_left 1
                    · intro w hSw
                      try dsimp only at hSw
                      go_simp
                      try with_reducible rfl
                    (try simp only [Act.put, List.setIfInBounds_toArray, List.set_cons_zero, List.set_cons_succ])
                    refine take_only 9 (oi := ⟨_, _, _, _, _, _⟩) (by kernel_rfl) rfl (fun K hK => ?_)
                    go_simp
                    have hOld := hHeld
                    clear hHeld
                    refine hK.out _ _ (by first | exact ⟨hg.ext, hg.ext.cell l0, hg.ext.cell l1, hg.ext.cell l2⟩ | exact ⟨G.out.ext.trans (by (show Ext _ _; repeat (first | with_reducible exact Ext.refl _ | with_reducible refine Ext.ext ?_ _ | with_reducible refine Ext.alloc ?_ _ | refine Ext.drew ?_ | refine Ext.drewN ?_ _ | exact Ext.refl _))), (G.out.ext.trans (by (show Ext _ _; repeat (first | with_reducible exact Ext.refl _ | with_reducible refine Ext.ext ?_ _ | with_reducible refine Ext.alloc ?_ _ | refine Ext.drew ?_ | refine Ext.drewN ?_ _ | exact Ext.refl _)))).cell l0, (G.out.ext.trans (by (show Ext _ _; repeat (first | with_reducible exact Ext.refl _ | with_reducible refine Ext.ext ?_ _ | with_reducible refine Ext.alloc ?_ _ | refine Ext.drew ?_ | refine Ext.drewN ?_ _ | exact Ext.refl _)))).cell l1, (G.out.ext.trans (by (show Ext _ _; repeat (first | with_reducible exact Ext.refl _ | with_reducible refine Ext.ext ?_ _ | with_reducible refine Ext.alloc ?_ _ | refine Ext.drew ?_ | refine Ext.drewN ?_ _ | exact Ext.refl _)))).cell l2⟩) (fun hHeld => ?_)
                    clear hOld hK K
                    (try simp only [Act.put, List.setIfInBounds_toArray, List.set_cons_zero, List.set_cons_succ])
                    refine take_only 10 (oi := ⟨_, _, _, _, _, _⟩) (by kernel_rfl) rfl (fun K hK => ?_)
                    go_simp
                    have hOld := hHeld
                    clear hHeld
                    refine hK.out _ _ (by first | exact ⟨hg.ext, hg.ext.cell l0, hg.ext.cell l1, hg.ext.cell l2⟩ | exact ⟨G.out.ext.trans (by (show Ext _ _; repeat (first | with_reducible exact Ext.refl _ | with_reducible refine Ext.ext ?_ _ | with_reducible refine Ext.alloc ?_ _ | refine Ext.drew ?_ | refine Ext.drewN ?_ _ | exact Ext.refl _))), (G.out.ext.trans (by (show Ext _ _; repeat (first | with_reducible exact Ext.refl _ | with_reducible refine Ext.ext ?_ _ | with_reducible refine Ext.alloc ?_ _ | refine Ext.drew ?_ | refine Ext.drewN ?_ _ | exact Ext.refl _)))).cell l0, (G.out.ext.trans (by (show Ext _ _; repeat (first | with_reducible exact Ext.refl _ | with_reducible refine Ext.ext ?_ _ | with_reducible refine Ext.alloc ?_ _ | refine Ext.drew ?_ | refine Ext.drewN ?_ _ | exact Ext.refl _)))).cell l1, (G.out.ext.trans (by (show Ext _ _; repeat (first | with_reducible exact Ext.refl _ | with_reducible refine Ext.ext ?_ _ | with_reducible refine Ext.alloc ?_ _ | refine Ext.drew ?_ | refine Ext.drewN ?_ _ | exact Ext.refl _)))).cell l2⟩) (fun hHeld => ?_)
                    clear hOld hK K
                    (try simp only [Act.put, List.setIfInBounds_toArray, List.set_cons_zero, List.set_cons_succ])
                    refine take_only 11 (oi := ⟨_, _, _, _, _, _⟩) (by kernel_rfl) rfl (fun K hK => ?_)
                    go_simp
                    (go_at_call 25; refine (name_good T C B w.heap.size W _ HS1.out l0 l1 l2 (8 * (G6 : Int) + 32 * i + k) (nm 98 (48 + i)) _ _ _ (G.out.ofx (by (show Ext _ _; repeat (first | with_reducible exact Ext.refl _ | with_reducible refine Ext.ext ?_ _ | with_reducible refine Ext.alloc ?_ _ | refine Ext.drew ?_ | refine Ext.drewN ?_ _ | exact Ext.refl _)))) (by clear hw1 hw2 hw3; omega) (by clear hw1 hw2 hw3; omega) (by clear hw1 hw2 hw3; rw [HSZ.out]; omega) HSB.out (fun h => by clear hw1 hw2 hw3; unfold Vb at h; omega) (own_block (by clear hw1 hw2 hw3; omega) hG5 hG6 (by clear hw1 hw2 hw3; omega) (by clear hw1 hw2 hw3; omega)) (nm_ne 98 (48 + i)).1 (nm_ne 98 (48 + i)).2).mono ?_; rintro e w9 ⟨rfl, hg⟩)
                    have hOld := hHeld
                    clear hHeld
                    refine hK.out _ _ (by first | exact ⟨hg.ext, hg.ext.cell l0, hg.ext.cell l1, hg.ext.cell l2⟩ | exact ⟨G.out.ext.trans (by (show Ext _ _; repeat (first | with_reducible exact Ext.refl _ | with_reducible refine Ext.ext ?_ _ | with_reducible refine Ext.alloc ?_ _ | refine Ext.drew ?_ | refine Ext.drewN ?_ _ | exact Ext.refl _))), (G.out.ext.trans (by (show Ext _ _; repeat (first | with_reducible exact Ext.refl _ | with_reducible refine Ext.ext ?_ _ | with_reducible refine Ext.alloc ?_ _ | refine Ext.drew ?_ | refine Ext.drewN ?_ _ | exact Ext.refl _)))).cell l0, (G.out.ext.trans (by (show Ext _ _; repeat (first | with_reducible exact Ext.refl _ | with_reducible refine Ext.ext ?_ _ | with_reducible refine Ext.alloc ?_ _ | refine Ext.drew ?_ | refine Ext.drewN ?_ _ | exact Ext.refl _)))).cell l1, (G.out.ext.trans (by (show Ext _ _; repeat (first | with_reducible exact Ext.refl _ | with_reducible refine Ext.ext ?_ _ | with_reducible refine Ext.alloc ?_ _ | refine Ext.drew ?_ | refine Ext.drewN ?_ _ | exact Ext.refl _)))).cell l2⟩) (fun hHeld => ?_)
                    clear hOld hK K
                    (try simp only [Act.put, List.setIfInBounds_toArray, List.set_cons_zero, List.set_cons_succ])
                    refine wpAnyH_done (by kernel_rfl) ?_ _
                    clear hw1 hw2 hw3 hcv
                    go_wp2_with fail
                    go_roundw
                    case rel => exact ⟨k + 1, by omega, by go_num, hg.mono (by omega) (fun a h => by unfold Vb at *; omega)⟩
                    case measure => simp [intOf]; omega
                  refine AllReadyH.cons (o := ⟨_, _, _, _, _, _⟩) rfl (fun K hK => ?_) AllReadyH.nil
                  go_simp
                  have hOld := hHeld
                  clear hHeld
                  refine hK.out _ _ (by first | exact ⟨hg.ext, hg.ext.cell l0, hg.ext.cell l1, hg.ext.cell l2⟩ | exact ⟨G.out.ext.trans (by (show Ext _ _; repeat (first | with_reducible exact Ext.refl _ | with_reducible refine Ext.ext ?_ _ | with_reducible refine Ext.alloc ?_ _ | refine Ext.drew ?_ | refine Ext.drewN ?_ _ | exact Ext.refl _))), (G.out.ext.trans (by (show Ext _ _; repeat (first | with_reducible exact Ext.refl _ | with_reducible refine Ext.ext ?_ _ | with_reducible refine Ext.alloc ?_ _ | refine Ext.drew ?_ | refine Ext.drewN ?_ _ | exact Ext.refl _)))).cell l0, (G.out.ext.trans (by (show Ext _ _; repeat (first | with_reducible exact Ext.refl _ | with_reducible refine Ext.ext ?_ _ | with_reducible refine Ext.alloc ?_ _ | refine Ext.drew ?_ | refine Ext.drewN ?_ _ | exact Ext.refl _)))).cell l1, (G.out.ext.trans (by (show Ext _ _; repeat (first | with_reducible exact Ext.refl _ | with_reducible refine Ext.ext ?_ _ | with_reducible refine Ext.alloc ?_ _ | refine Ext.drew ?_ | refine Ext.drewN ?_ _ | exact Ext.refl _)))).cell l2⟩) (fun hHeld => ?_)
                  clear hOld hK K
                  (try simp only [Act.put, List.setIfInBounds_toArray, List.set_cons_zero, List.set_cons_succ])
                  refine wpAnyH_ready (rs := [3, 10]) (by kernel_rfl) (by simp) ?_
                  refine AllReadyH.cons (o := ⟨_, _, _, _, _, _⟩) rfl (fun K hK => ?_) ?_
                  · skip
                    go_simp
                    (go_at_call 24; refine (block_any T C B i _ (Szs.of HS1.out (G.out.ext.trans (by (show Ext _ _; repeat (first | with_reducible exact Ext.refl _ | with_reducible refine Ext.ext ?_ _ | with_reducible refine Ext.alloc ?_ _ | refine Ext.drew ?_ | refine Ext.drewN ?_ _ | exact Ext.refl _)))))).mono ?_; rintro e w' ⟨rfl, s2, rfl⟩; rw [HBl.out i hlt])
                    have hOld := hHeld
                    clear hHeld
                    refine hK.out _ _ (by first | exact ⟨hg.ext, hg.ext.cell l0, hg.ext.cell l1, hg.ext.cell l2⟩ | exact ⟨G.out.ext.trans (by (show Ext _ _; repeat (first | with_reducible exact Ext.refl _ | with_reducible refine Ext.ext ?_ _ | with_reducible refine Ext.alloc ?_ _ | refine Ext.drew ?_ | refine Ext.drewN ?_ _ | exact Ext.refl _))), (G.out.ext.trans (by (show Ext _ _; repeat (first | with_reducible exact Ext.refl _ | with_reducible refine Ext.ext ?_ _ | with_reducible refine Ext.alloc ?_ _ | refine Ext.drew ?_ | refine Ext.drewN ?_ _ | exact Ext.refl _)))).cell l0, (G.out.ext.trans (by (show Ext _ _; repeat (first | with_reducible exact Ext.refl _ | with_reducible refine Ext.ext ?_ _ | with_reducible refine Ext.alloc ?_ _ | refine Ext.drew ?_ | refine Ext.drewN ?_ _ | exact Ext.refl _)))).cell l1, (G.out.ext.trans (by (show Ext _ _; repeat (first | with_reducible exact Ext.refl _ | with_reducible refine Ext.ext ?_ _ | with_reducible refine Ext.alloc ?_ _ | refine Ext.drew ?_ | refine Ext.drewN ?_ _ | exact Ext.refl _)))).cell l2⟩) (fun hHeld => ?_)
                    clear hOld hK K
                    (try simp only [Act.put, List.setIfInBounds_toArray, List.set_cons_zero, List.set_cons_succ])
                    refine take_met 5 (oi := ⟨_, _, _, _, _, _⟩) (v := ?_) (by kernel_rfl) rfl (by rfl) (fun _ _ _ h => h) (by assumption) ?_ ?_
                    rotate_left 1
                    · intro w hSw
                      try dsimp only at hSw
                      go_simp
                      try with_reducible rfl
                    (try simp only [Act.put, List.setIfInBounds_toArray, List.set_cons_zero, List.set_cons_succ])
                    refine take_only 10 (oi := ⟨_, _, _, _, _, _⟩) (by kernel_rfl) rfl (fun K hK => ?_)
                    go_simp
                    have hOld := hHeld
                    clear hHeld
                    refine hK.out _ _ (by first | exact ⟨hg.ext, hg.ext.cell l0, hg.ext.cell l1, hg.ext.cell l2⟩ | exact ⟨G.out.ext.trans (by (show Ext _ _; repeat (first | with_reducible exact Ext.refl _ | with_reducible refine Ext.ext ?_ _ | with_reducible refine Ext.alloc ?_ _ | refine Ext.drew ?_ | refine Ext.drewN ?_ _ | exact Ext.refl _))), (G.out.ext.trans (by (show Ext _ _; repeat (first | with_reducible exact Ext.refl _ | with_reducible refine Ext.ext ?_ _ | with_reducible refine Ext.alloc ?_ _ | refine Ext.drew ?_ | refine Ext.drewN ?_ _ | exact Ext.refl _)))).cell l0, (G.out.ext.trans (by (show Ext _ _; repeat (first | with_reducible exact Ext.refl _ | with_reducible refine Ext.ext ?_ _ | with_reducible refine Ext.alloc ?_ _ | refine Ext.drew ?_ | refine Ext.drewN ?_ _ | exact Ext.refl _)))).cell l1, (G.out.ext.trans (by (show Ext _ _; repeat (first | with_reducible exact Ext.refl _ | with_reducible refine Ext.ext ?_ _ | with_reducible refine Ext.alloc ?_ _ | refine Ext.drew ?_ | refine Ext.drewN ?_ _ | exact Ext.refl _)))).cell l2⟩) (fun hHeld => ?_)
                    clear hOld hK K
                    (try simp only [Act.put, List.setIfInBounds_toArray, List.set_cons_zero, List.set_cons_succ])
                    refine take_only 11 (oi := ⟨_, _, _, _, _, _⟩) (by kernel_rfl) rfl (fun K hK => ?_)
                    go_simp
                    (go_at_call 25; refine (name_good T C B w.heap.size W _ HS1.out l0 l1 l2 (8 * (G6 : Int) + 32 * i + k) (nm 98 (48 + i)) _ _ _ (G.out.ofx (by (show Ext _ _; repeat (first | with_reducible exact Ext.refl _ | with_reducible refine Ext.ext ?_ _ | with_reducible refine Ext.alloc ?_ _ | refine Ext.drew ?_ | refine Ext.drewN ?_ _ | exact Ext.refl _)))) (by clear hw1 hw2 hw3; omega) (by clear hw1 hw2 hw3; omega) (by clear hw1 hw2 hw3; rw [HSZ.out]; omega) HSB.out (fun h => by clear hw1 hw2 hw3; unfold Vb at h; omega) (own_block (by clear hw1 hw2 hw3; omega) hG5 hG6 (by clear hw1 hw2 hw3; omega) (by clear hw1 hw2 hw3; omega)) (nm_ne 98 (48 + i)).1 (nm_ne 98 (48 + i)).2).mono ?_; rintro e w9 ⟨rfl, hg⟩)
                    have hOld := hHeld
                    clear hHeld
                    refine hK.out _ _ (by first | exact ⟨hg.ext, hg.ext.cell l0, hg.ext.cell l1, hg.ext.cell l2⟩ | exact ⟨G.out.ext.trans (by (show Ext _ _; repeat (first | with_reducible exact Ext.refl _ | with_reducible refine Ext.ext ?_ _ | with_reducible refine Ext.alloc ?_ _ | refine Ext.drew ?_ | refine Ext.drewN ?_ _ | exact Ext.refl _))), (G.out.ext.trans (by (show Ext _ _; repeat (first | with_reducible exact Ext.refl _ | with_reducible refine Ext.ext ?_ _ | with_reducible refine Ext.alloc ?_ _ | refine Ext.drew ?_ | refine Ext.drewN ?_ _ | exact Ext.refl _)))).cell l0, (G.out.ext.trans (by (show Ext _ _; repeat (first | with_reducible exact Ext.refl _ | with_reducible refine Ext.ext ?_ _ | with_reducible refine Ext.alloc ?_ _ | refine Ext.drew ?_ | refine Ext.drewN ?_ _ | exact Ext.refl _)))).cell l1, (G.out.ext.trans (by (show Ext _ _; repeat (first | with_reducible exact Ext.refl _ | with_reducible refine Ext.ext ?_ _ | with_reducible refine Ext.alloc ?_ _ | refine Ext.drew ?_ | refine Ext.drewN ?_ _ | exact Ext.refl _)))).cell l2⟩) (fun hHeld => ?_)
                    clear hOld hK K
                    (try simp only [Act.put, List.setIfInBounds_toArray, List.set_cons_zero, List.set_cons_succ])
                    refine wpAnyH_done (by kernel_rfl) ?_ _
                    clear hw1 hw2 hw3 hcv
                    go_wp2_with fail
                    go_roundw
                    case rel => exact ⟨k + 1, by omega, by go_num, hg.mono (by omega) (fun a h => by unfold Vb at *; omega)⟩
                    case measure => simp [intOf]; omega
                  refine AllReadyH.cons (o := ⟨_, _, _, _, _, _⟩) rfl (fun K hK => ?_) AllReadyH.nil
                  go_simp
                  have hOld := hHeld
                  clear hHeld
                  refine hK.out _ _ (by first | exact ⟨hg.ext, hg.ext.cell l0, hg.ext.cell l1, hg.ext.cell l2⟩ | exact ⟨G.out.ext.trans (by (show Ext _ _; repeat (first | with_reducible exact Ext.refl _ | with_reducible refine Ext.ext ?_ _ | with_reducible refine Ext.alloc ?_ _ | refine Ext.drew ?_ | refine Ext.drewN ?_ _ | exact Ext.refl _))), (G.out.ext.trans (by (show Ext _ _; repeat (first | with_reducible exact Ext.refl _ | with_reducible refine Ext.ext ?_ _ | with_reducible refine Ext.alloc ?_ _ | refine Ext.drew ?_ | refine Ext.drewN ?_ _ | exact Ext.refl _)))).cell l0, (G.out.ext.trans (by (show Ext _ _; repeat (first | with_reducible exact Ext.refl _ | with_reducible refine Ext.ext ?_ _ | with_reducible refine Ext.alloc ?_ _ | refine Ext.drew ?_ | refine Ext.drewN ?_ _ | exact Ext.refl _)))).cell l1, (G.out.ext.trans (by (show Ext _ _; repeat (first | with_reducible exact Ext.refl _ | with_reducible refine Ext.ext ?_ _ | with_reducible refine Ext.alloc ?_ _ | refine Ext.drew ?_ | refine Ext.drewN ?_ _ | exact Ext.refl _)))).cell l2⟩) (fun hHeld => ?_)
                  clear hOld hK K
                  (try simp only [Act.put, List.setIfInBounds_toArray, List.set_cons_zero, List.set_cons_succ])
                  refine take_only 3 (oi := ⟨_, _, _, _, _, _⟩) (by kernel_rfl) rfl (fun K hK => ?_)
                  go_simp
                  (go_at_call 24; refine (block_any T C B i _ (Szs.of HS1.out (G.out.ext.trans (by (show Ext _ _; repeat (first | with_reducible exact Ext.refl _ | with_reducible refine Ext.ext ?_ _ | with_reducible refine Ext.alloc ?_ _ | refine Ext.drew ?_ | refine Ext.drewN ?_ _ | exact Ext.refl _)))))).mono ?_; rintro e w' ⟨rfl, s2, rfl⟩; rw [HBl.out i hlt])
                  have hOld := hHeld
                  clear hHeld
                  refine hK.out _ _ (by first | exact ⟨hg.ext, hg.ext.cell l0, hg.ext.cell l1, hg.ext.cell l2⟩ | exact ⟨G.out.ext.trans (by (show Ext _ _; repeat (first | with_reducible exact Ext.refl _ | with_reducible refine Ext.ext ?_ _ | with_reducible refine Ext.alloc ?_ _ | refine Ext.drew ?_ | refine Ext.drewN ?_ _ | exact Ext.refl _))), (G.out.ext.trans (by (show Ext _ _; repeat (first | with_reducible exact Ext.refl _ | with_reducible refine Ext.ext ?_ _ | with_reducible refine Ext.alloc ?_ _ | refine Ext.drew ?_ | refine Ext.drewN ?_ _ | exact Ext.refl _)))).cell l0, (G.out.ext.trans (by (show Ext _ _; repeat (first | with_reducible exact Ext.refl _ | with_reducible refine Ext.ext ?_ _ | with_reducible refine Ext.alloc ?_ _ | refine Ext.drew ?_ | refine Ext.drewN ?_ _ | exact Ext.refl _)))).cell l1, (G.out.ext.trans (by (show Ext _ _; repeat (first | with_reducible exact Ext.refl _ | with_reducible refine Ext.ext ?_ _ | with_reducible refine Ext.alloc ?_ _ | refine Ext.drew ?_ | refine Ext.drewN ?_ _ | exact Ext.refl _)))).cell l2⟩) (fun hHeld => ?_)
                  clear hOld hK K
                  (try simp only [Act.put, List.setIfInBounds_toArray, List.set_cons_zero, List.set_cons_succ])
                  refine take_met 5 (oi := ⟨_, _, _, _, _, _⟩) (v := ?_) (by kernel_rfl) rfl (by rfl) (fun _ _ _ h => h) (by assumption) ?_ ?_
                  rotate_left 1
                  · intro w hSw
                    try dsimp only at hSw
                    go_simp
                    try with_reducible rfl
                  (try simp only [Act.put, List.setIfInBounds_toArray, List.set_cons_zero, List.set_cons_succ])
                  refine take_only 11 (oi := ⟨_, _, _, _, _, _⟩) (by kernel_rfl) rfl (fun K hK => ?_)
                  go_simp
                  (go_at_call 25; refine (name_good T C B w.heap.size W _ HS1.out l0 l1 l2 (8 * (G6 : Int) + 32 * i + k) (nm 98 (48 + i)) _ _ _ (G.out.ofx (by (show Ext _ _; repeat (first | with_reducible exact Ext.refl _ | with_reducible refine Ext.ext ?_ _ | with_reducible refine Ext.alloc ?_ _ | refine Ext.drew ?_ | refine Ext.drewN ?_ _ | exact Ext.refl _)))) (by clear hw1 hw2 hw3; omega) (by clear hw1 hw2 hw3; omega) (by clear hw1 hw2 hw3; rw [HSZ.out]; omega) HSB.out (fun h => by clear hw1 hw2 hw3; unfold Vb at h; omega) (own_block (by clear hw1 hw2 hw3; omega) hG5 hG6 (by clear hw1 hw2 hw3; omega) (by clear hw1 hw2 hw3; omega)) (nm_ne 98 (48 + i)).1 (nm_ne 98 (48 + i)).2).mono ?_; rintro e w9 ⟨rfl, hg⟩)
                  have hOld := hHeld
                  clear hHeld
                  refine hK.out _ _ (by first | exact ⟨hg.ext, hg.ext.cell l0, hg.ext.cell l1, hg.ext.cell l2⟩ | exact ⟨G.out.ext.trans (by (show Ext _ _; repeat (first | with_reducible exact Ext.refl _ | with_reducible refine Ext.ext ?_ _ | with_reducible refine Ext.alloc ?_ _ | refine Ext.drew ?_ | refine Ext.drewN ?_ _ | exact Ext.refl _))), (G.out.ext.trans (by (show Ext _ _; repeat (first | with_reducible exact Ext.refl _ | with_reducible refine Ext.ext ?_ _ | with_reducible refine Ext.alloc ?_ _ | refine Ext.drew ?_ | refine Ext.drewN ?_ _ | exact Ext.refl _)))).cell l0, (G.out.ext.trans (by (show Ext _ _; repeat (first | with_reducible exact Ext.refl _ | with_reducible refine Ext.ext ?_ _ | with_reducible refine Ext.alloc ?_ _ | refine Ext.drew ?_ | refine Ext.drewN ?_ _ | exact Ext.refl _)))).cell l1, (G.out.ext.trans (by (show Ext _ _; repeat (first | with_reducible exact Ext.refl _ | with_reducible refine Ext.ext ?_ _ | with_reducible refine Ext.alloc ?_ _ | refine Ext.drew ?_ | refine Ext.drewN ?_ _ | exact Ext.refl _)))).cell l2⟩) (fun hHeld => ?_)
                  clear hOld hK K
                  (try simp only [Act.put, List.setIfInBounds_toArray, List.set_cons_zero, List.set_cons_succ])
                  refine wpAnyH_done (by kernel_rfl) ?_ _
                  clear hw1 hw2 hw3 hcv
                  go_wp2_with fail
                  go_roundw
                  case rel => exact ⟨k + 1, by omega, by go_num, hg.mono (by omega) (fun a h => by unfold Vb at *; omega)⟩
                  case measure => simp [intOf]; omega
                · have hd3 : decide ((k : Int) < 32) = false := decide_eq_false (by omega)
                  have HI := hid (show k = 32 by omega)
                  go_wp2_with fail
                  go_roundw
                  case rel => exact ⟨i + 1, by omega, by go_num, G.out.mono (by have := HI.out; omega) (fun a h => by have := HI.out; unfold Vb at *; omega)⟩
                  case measure => simp [intOf]; omega
            · have hd : decide (i < B) = false := decide_eq_false hlt
              go_wp2_with fail
              go_call (awake_any _ (Szs.of HS1.out (G.out.ext.trans (by (show Ext _ _; repeat (first | with_reducible exact Ext.refl _ | with_reducible refine Ext.ext ?_ _ | with_reducible refine Ext.alloc ?_ _ | refine Ext.drew ?_ | refine Ext.drewN ?_ _ | exact Ext.refl _)))))) as e w' ⟨rfl, s1, rfl⟩
              go_wp2_with fail
              go_ret
              exact ⟨rfl, HW.out.trans (G.out.ext.trans (by (show Ext _ _; repeat (first | with_reducible exact Ext.refl _ | with_reducible refine Ext.ext ?_ _ | with_reducible refine Ext.alloc ?_ _ | refine Ext.drew ?_ | refine Ext.drewN ?_ _ | exact Ext.refl _))))⟩

end Go.Proofs.YtoaghifcgjpijaaDoor
