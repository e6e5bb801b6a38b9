/- The walk of the statement LayoutBits. -/
import Derived.Test.YtoaghifcgjpijaaDoorLayJ
import Derived.Test.YtoaghifcgjpijaaDoorLayQ
import Derived.Test.YtoaghifcgjpijaaDoorMapZ
import Derived.Test.YtoaghifcgjpijaaDoorHeld
namespace Go.Proofs.YtoaghifcgjpijaaDoor
open Go.RowKit

theorem u8_bd {x : Int} (h : (Lit.int .u8 x).wf = true) : 0 ≤ x ∧ x ≤ 255 := by
  have h1 : IntKind.u8.min = 0 := rfl
  have h2 : IntKind.u8.max = 255 := rfl
  simp only [Lit.wf, Bool.and_eq_true, decide_eq_true_eq] at h
  omega
theorem Tryd.zeroI64 (w : World) : (zeroValue 2).run Tryd.prog w = .ok (.int .i64 0) w := by kernel_rfl

/-- Plain: the sums of the bits of i blocks. -/
def sumB (F : Int) (i : Nat) (a : Int) : Int := if a = F then 2 ^ (min i 32) - 1 else if a = F + 1 then 2 ^ (i - 32) - 1 else 0

theorem bits_k : ∀ k : Nat, k < 32 → bits BinOp.and IntKind.i64 (2 ^ k - 1) (2 ^ k) = 0 ∧ bits BinOp.or IntKind.i64 (2 ^ k - 1) (2 ^ k) = 2 ^ (k + 1) - 1 ∧ (1 : Int) ≤ 2 ^ k ∧ (2 : Int) ^ k ≤ 2147483648 ∧ (2 : Int) ^ (k + 1) ≤ 4294967296 := by decide +kernel
theorem sum_now (F : Int) (i : Nat) (h : i < 64) : sumB F i (F + ((i / 32 : Nat) : Int)) = 2 ^ (i % 32) - 1 := by
  unfold sumB
  by_cases hi : i < 32
  · have h1 : i / 32 = 0 := by omega
    have h2 : i % 32 = i := by omega
    have h3 : min i 32 = i := by omega
    rw [h1, h2, if_pos (by simp), h3]
  · have h1 : i / 32 = 1 := by omega
    have h2 : i % 32 = i - 32 := by omega
    rw [h1, h2, if_neg (by simp only [Int.natCast_one]; omega), if_pos (by simp)]
theorem sum_next (F : Int) (i : Nat) (h : i < 64) : (fun y => if y = F + ((i / 32 : Nat) : Int) then (2 : Int) ^ (i % 32 + 1) - 1 else sumB F i y) = sumB F (i + 1) := by
  funext y
  unfold sumB
  by_cases hi : i < 32
  · have h1 : i / 32 = 0 := by omega
    have h2 : i % 32 = i := by omega
    have h3 : min i 32 = i := by omega
    have h4 : min (i + 1) 32 = i + 1 := by omega
    have h5 : i - 32 = 0 := by omega
    have h6 : i + 1 - 32 = 0 := by omega
    simp only [h1, h2, h3, h4, h5, h6, Int.natCast_zero, Int.add_zero]
    by_cases hy : y = F <;> simp [hy]
  · have h1 : i / 32 = 1 := by omega
    have h2 : i % 32 + 1 = i - 32 + 1 := by omega
    have h3 : min i 32 = 32 := by omega
    have h4 : min (i + 1) 32 = 32 := by omega
    have h5 : i + 1 - 32 = i - 32 + 1 := by omega
    simp only [h1, h2, h3, h4, h5, Int.natCast_one]
    by_cases hy : y = F + 1
    · subst hy
      rw [if_pos rfl, if_neg (by omega), if_pos rfl]
    · rw [if_neg hy, if_neg hy]; by_cases hy2 : y = F <;> simp [hy2, hy]

/-- Plain: what the loop asks of block i. -/
theorem bits_now {T C B i : Nat} (hr : rightN T C B = true) (hi : i < B) : bitsN T C B i = (fromN T C B 5 + ((i / 32 : Nat) : Int), 2 ^ (i % 32)) ∧ mayN T C B (fromN T C B 5 + ((i / 32 : Nat) : Int)) = false ∧ atN T C B 6 0 0 = fromN T C B 5 + 8 ∧ B ≤ 64 ∧ 0 ≤ fromN T C B 5 ∧ fromN T C B 5 ≤ 5000 := by
  have hk := (right_lok hr).1
  obtain ⟨f0, f1, f2, f3, f4, f5, f6⟩ := from_vals T C B
  obtain ⟨q1, q2, q3, q4, q5, q6⟩ := hk
  have hB : 0 < B := by omega
  rw [if_pos hB] at f6
  have hpad : padN C ≤ 7 := by unfold padN; omega
  refine ⟨?_, ?_, ?_, by omega, by omega, by omega⟩
  · unfold bitsN
    rw [if_pos ⟨hr, by omega, by omega⟩]
    have h1 : ((i : Int) % 32).toNat = i % 32 := by omega
    have h2 : (i : Int) / 32 = ((i / 32 : Nat) : Int) := by omega
    rw [h1, h2]
  · unfold mayN
    rw [hr]
    simp only [Bool.true_and, Bool.or_eq_false_iff, decide_eq_false_iff_not]
    constructor <;> omega
  · unfold atN
    rw [if_pos ⟨hr, by omega, by simp [manyN]; omega⟩]
    rw [f6]
    omega

set_option maxHeartbeats 1000000 in
theorem lbits_any (x y z : Int) (hx : 0 ≤ x ∧ x ≤ 255) (hy : 0 ≤ y ∧ y ≤ 255) (hz : 0 ≤ z ∧ z ≤ 255) (w : World) (hs : Szs w) :
    Calls Tryd.prog 6 #[.int .u8 x, .int .u8 y, .int .u8 z] w fun e w' => e = .returned (.bool true) ∧ ∃ r, w' = ext w r := by
  have HS := hid hs
  obtain ⟨hx0, hx1⟩ := hx
  obtain ⟨hy0, hy1⟩ := hy
  obtain ⟨hz0, hz1⟩ := hz
  clear hs
  have hmm := @run_makeMap Tryd.prog
  go_enter Tryd.func6, Tryd.ntmps6
  go_wp2_with fail
  go_call (check_any (x % 8 + 1) (y + 1) (z % 65) _ (HS.out.of (by (show Ext _ _; repeat (first | with_reducible exact Ext.refl _ | with_reducible refine Ext.ext ?_ _ | with_reducible refine Ext.alloc ?_ _ | refine Ext.drew ?_ | refine Ext.drewN ?_ _ | exact Ext.refl _))))) as e w' ⟨rfl, r1, rfl⟩
  obtain ⟨T, hT⟩ : ∃ T : Nat, x % 8 + 1 = (T : Int) := ⟨(x % 8 + 1).toNat, by omega⟩
  obtain ⟨C, hC⟩ : ∃ C : Nat, y + 1 = (C : Int) := ⟨(y + 1).toNat, by omega⟩
  obtain ⟨B, hB⟩ : ∃ B : Nat, z % 65 = (B : Int) := ⟨(z % 65).toNat, by omega⟩
  rw [hT, hC, hB]
  clear hT hC hB
  have HW := hid (show Ext w (ext (w.alloc (.cells #[.int .i64 (T : Int), .int .i64 (C : Int), .int .i64 (B : Int)] 23)) r1) by (show Ext _ _; repeat (first | with_reducible exact Ext.refl _ | with_reducible refine Ext.ext ?_ _ | with_reducible refine Ext.alloc ?_ _ | refine Ext.drew ?_ | refine Ext.drewN ?_ _ | exact Ext.refl _)))
  have hl := hid (show w.heap.size < (ext (w.alloc (.cells #[.int .i64 (T : Int), .int .i64 (C : Int), .int .i64 (B : Int)] 23)) r1).heap.size by simp; omega)
  have l0 : (ext (w.alloc (.cells #[.int .i64 (T : Int), .int .i64 (C : Int), .int .i64 (B : Int)] 23)) r1).cell? ⟨w.heap.size, 0, none⟩ = some (.int .i64 (T : Int)) := by simp [go_sem]
  have l1 : (ext (w.alloc (.cells #[.int .i64 (T : Int), .int .i64 (C : Int), .int .i64 (B : Int)] 23)) r1).cell? ⟨w.heap.size, 1, none⟩ = some (.int .i64 (C : Int)) := by simp [go_sem]
  have l2 : (ext (w.alloc (.cells #[.int .i64 (T : Int), .int .i64 (C : Int), .int .i64 (B : Int)] 23)) r1).cell? ⟨w.heap.size, 2, none⟩ = some (.int .i64 (B : Int)) := by simp [go_sem]
  generalize ext (w.alloc (.cells #[.int .i64 (T : Int), .int .i64 (C : Int), .int .i64 (B : Int)] 23)) r1 = W at *
  have HS1 := hid (HS.out.of HW.out)
  have hl9 := hl.out
  by_cases hc : checkN T C B = 0
  · have hr : rightN T C B = true := by unfold rightN; rw [hc]; rfl
    rw [hc]
    have HR := hid hr
    clear hr hc
    go_wp2_with fail
    go_loopw [30] (fun v wr => ∃ i : Nat, i ≤ B ∧ v = .int .i64 i ∧ Hid (MapK (elInt Tryd.prog 2 Tryd.underlying2 Tryd.zeroI64) 32 wr W.heap.size i (sumB (fromN T C B 5) i) (fun l => l = .int .i64 (fromN T C B 5) ∨ l = .int .i64 (fromN T C B 5 + 1))) ∧ Ext W wr) (fun v _ => B - (intOf v).toNat)
    case atStart =>
      have h0 : sumB (fromN T C B 5) 0 = fun _ => 0 := by funext a; simp [sumB]
      exact ⟨0, by omega, rfl, by rw [h0]; exact MapK.made (elInt Tryd.prog 2 Tryd.underlying2 Tryd.zeroI64) W _ rfl, by (show Ext _ _; repeat (first | with_reducible exact Ext.refl _ | with_reducible refine Ext.ext ?_ _ | with_reducible refine Ext.alloc ?_ _ | refine Ext.drew ?_ | refine Ext.drewN ?_ _ | exact Ext.refl _))⟩
    case round =>
      obtain ⟨i, hi, rfl, HM, r, rfl⟩ := hrel
      by_cases hlt : i < B
      · have hd : decide (i < B) = true := decide_eq_true hlt
        obtain ⟨n1, n2, n3, n4, n5, n6⟩ := bits_now HR.out hlt
        obtain ⟨b1, b2, b3, b4, b5⟩ := bits_k (i % 32) (Nat.mod_lt _ (by omega))
        have m1 := sum_now (fromN T C B 5) i (by omega)
        have m2 := sum_next (fromN T C B 5) i (by omega)
        obtain ⟨at', hat⟩ : ∃ a, a = fromN T C B 5 + ((i / 32 : Nat) : Int) := ⟨_, rfl⟩
        have hb0 : 0 ≤ at' := by omega
        have hb9 : at' ≤ 6000 := by omega
        have hk2 : i / 32 = 0 ∨ i / 32 = 1 := by omega
        have HKey := hid (show (Lit.int .i64 at' = Lit.int .i64 (fromN T C B 5) ∨ Lit.int .i64 at' = Lit.int .i64 (fromN T C B 5 + 1)) by rcases hk2 with h | h <;> rw [hat, h] <;> simp)
        have HWF := hid (show (Lit.int .i64 at').wf = true from WalkArith.wf_i64 (by omega))
        have hge : ¬ atN T C B 6 0 0 ≤ at' := by omega
        rw [← hat] at n1 n2 m1 m2
        obtain ⟨s, hs⟩ : ∃ s : Int, s = 2 ^ (i % 32) - 1 := ⟨_, rfl⟩
        obtain ⟨s2, hs2⟩ : ∃ s : Int, s = 2 ^ (i % 32 + 1) - 1 := ⟨_, rfl⟩
        rw [← hs] at b1 b2 m1
        rw [← hs2] at b2 m2
        have HWS := hid (show (Lit.int .i64 s2).wf = true from WalkArith.wf_i64 (by omega))
        have N1 := hid n1
        have N2 := hid n2
        have M1 := hid m1
        have M2 := hid m2
        have hbv : ∃ v : Int, v = 2 ^ (i % 32) := ⟨_, rfl⟩
        obtain ⟨bv, hbv⟩ := hbv
        rw [← hbv] at b1 b2 b3 b4 N1
        have h1 : ¬ bv < 1 := by omega
        have h2 : ¬ 4294967296 ≤ bv := by omega
        obtain ⟨fb, hfb⟩ : ∃ f, f = atN T C B 6 0 0 := ⟨_, rfl⟩
        rw [← hfb] at hge
        have HFB := hid hfb
        clear n1 n2 n3 m1 m2 hs hs2 hbv hat hk2 hfb b5 n5 n6
        go_wp2_with fail
        go_call (bits_any T C B i (by omega) (by omega) _ (HS1.out.of (by (show Ext _ _; repeat (first | with_reducible exact Ext.refl _ | with_reducible refine Ext.ext ?_ _ | with_reducible refine Ext.alloc ?_ _ | refine Ext.drew ?_ | refine Ext.drewN ?_ _ | exact Ext.refl _))))) as e w' ⟨rfl, r2, rfl⟩
        rw [N1.out]
        go_wp2_with (at_lookup; refine map_get_as (elInt Tryd.prog 2 Tryd.underlying2 Tryd.zeroI64) Tryd.underlying32 Tryd.underlying47 rfl _ _ rfl rfl (MapK.fn _ (MapK.of _ HM.out (by (show Ext _ _; repeat (first | with_reducible exact Ext.refl _ | with_reducible refine Ext.ext ?_ _ | with_reducible refine Ext.alloc ?_ _ | refine Ext.drew ?_ | refine Ext.drewN ?_ _ | exact Ext.refl _))))) at' HWF.out rfl (.int .i64 s) (congrArg (Value.int .i64) M1.out) ?_)
        go_call (may_any T C B at' (by omega) (by omega) _ (HS1.out.of (by (show Ext _ _; repeat (first | with_reducible exact Ext.refl _ | with_reducible refine Ext.ext ?_ _ | with_reducible refine Ext.alloc ?_ _ | refine Ext.drew ?_ | refine Ext.drewN ?_ _ | exact Ext.refl _))))) as e w' ⟨rfl, r3, rfl⟩
        rw [N2.out]
        go_wp2_with fail
        go_call (block_any T C B 0 _ (HS1.out.of (by (show Ext _ _; repeat (first | with_reducible exact Ext.refl _ | with_reducible refine Ext.ext ?_ _ | with_reducible refine Ext.alloc ?_ _ | refine Ext.drew ?_ | refine Ext.drewN ?_ _ | exact Ext.refl _))))) as e w' ⟨rfl, r4, rfl⟩
        rw [← HFB.out]
        go_wp2_with (first | (at_lookup; refine map_get_as (elInt Tryd.prog 2 Tryd.underlying2 Tryd.zeroI64) Tryd.underlying32 Tryd.underlying47 rfl _ _ rfl rfl (MapK.fn _ (MapK.of _ HM.out (by (show Ext _ _; repeat (first | with_reducible exact Ext.refl _ | with_reducible refine Ext.ext ?_ _ | with_reducible refine Ext.alloc ?_ _ | refine Ext.drew ?_ | refine Ext.drewN ?_ _ | exact Ext.refl _))))) at' HWF.out rfl (.int .i64 s) (congrArg (Value.int .i64) M1.out) ?_) | (at_mapUpdate; refine mapk_put (elInt Tryd.prog 2 Tryd.underlying2 Tryd.zeroI64) Tryd.underlying32 Tryd.underlying47 rfl _ _ _ rfl W (by (show Ext _ _; repeat (first | with_reducible exact Ext.refl _ | with_reducible refine Ext.ext ?_ _ | with_reducible refine Ext.alloc ?_ _ | refine Ext.drew ?_ | refine Ext.drewN ?_ _ | exact Ext.refl _))) (Nat.le_refl _) rfl (MapK.of _ HM.out (by (show Ext _ _; repeat (first | with_reducible exact Ext.refl _ | with_reducible refine Ext.ext ?_ _ | with_reducible refine Ext.alloc ?_ _ | refine Ext.drew ?_ | refine Ext.drewN ?_ _ | exact Ext.refl _)))) (by omega) at' HWF.out HKey.out s2 HWS.out rfl rfl ?_; intro w1 hE1 hM1 hG1))
        go_roundw
        case rel => exact ⟨i + 1, by omega, by go_num, by rw [← M2.out]; exact hM1, hE1⟩
        case measure => simp [intOf]; omega
      · have hd : decide (i < B) = false := decide_eq_false hlt
        go_wp2_with fail
        go_call (awake_any _ (HS1.out.of (by (show Ext _ _; repeat (first | with_reducible exact Ext.refl _ | with_reducible refine Ext.ext ?_ _ | with_reducible refine Ext.alloc ?_ _ | refine Ext.drew ?_ | refine Ext.drewN ?_ _ | exact Ext.refl _))))) as e w' ⟨rfl, r2, rfl⟩
        go_wp2_with (at_len; refine MapK.len (elInt Tryd.prog 2 Tryd.underlying2 Tryd.zeroI64) Tryd.underlying32 (MapK.of _ HM.out (by (show Ext _ _; repeat (first | with_reducible exact Ext.refl _ | with_reducible refine Ext.ext ?_ _ | with_reducible refine Ext.alloc ?_ _ | refine Ext.drew ?_ | refine Ext.drewN ?_ _ | exact Ext.refl _)))) Tryd.underlying47 rfl _ rfl rfl ?_; intro c hc; have hc2 : (c : Int) ≤ 2 := by omega)
        go_ret
        exact ⟨rfl, HW.out.trans (by (show Ext _ _; repeat (first | with_reducible exact Ext.refl _ | with_reducible refine Ext.ext ?_ _ | with_reducible refine Ext.alloc ?_ _ | refine Ext.drew ?_ | refine Ext.drewN ?_ _ | exact Ext.refl _)))⟩
  · have hne : (checkN T C B != 0) = true := by simpa using hc
    clear hc
    go_wp2_with fail
    go_call (awake_any _ (HS1.out.of (by (show Ext _ _; repeat (first | with_reducible exact Ext.refl _ | with_reducible refine Ext.ext ?_ _ | with_reducible refine Ext.alloc ?_ _ | refine Ext.drew ?_ | refine Ext.drewN ?_ _ | exact Ext.refl _))))) as e w' ⟨rfl, r2, rfl⟩
    go_wp2_with fail
    go_ret
    exact ⟨rfl, HW.out.trans (by (show Ext _ _; repeat (first | with_reducible exact Ext.refl _ | with_reducible refine Ext.ext ?_ _ | with_reducible refine Ext.alloc ?_ _ | refine Ext.drew ?_ | refine Ext.drewN ?_ _ | exact Ext.refl _)))⟩

end Go.Proofs.YtoaghifcgjpijaaDoor
