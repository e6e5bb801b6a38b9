/- Walks of the reference's functions of layer 11: line, All. -/
import Derived.Test.YtoaghifcgjpijaaDoorLayE
namespace Go.Proofs.YtoaghifcgjpijaaDoor
open Go.RowKit

/-- Plain: the use of a location. -/
abbrev Kd := Int × Int × Int

/-- The cells of a use. -/
def kdE (k : Kd) : List Value := [.int .i64 k.1, .int .i64 k.2.1, .int .i64 k.2.2]
theorem kdE_len (k : Kd) : (kdE k).length = 3 := rfl
theorem kdE_one (k : Kd) : ∀ u ∈ kdE k, u.oneCell' = true := by
  intro u hu
  simp only [kdE, List.mem_cons, List.not_mem_nil, or_false] at hu
  rcases hu with rfl | rfl | rfl <;> rfl

/-- The slice v reads as the list l. -/
def Ks (w : World) (base : Nat) (v : Value) (l : List Kd) : Prop := Own w base 35 3 kdE v l

set_option maxHeartbeats 400000 in
theorem line_any (w : World) :
    Calls Tryd.prog 35 #[] w fun e w' => e = .returned (.slice (some ⟨w.heap.size, 0, none⟩) 8 8) ∧ w' = w.alloc (.cells #[.int .i64 0, .int .i64 0, .int .i64 0, .int .i64 0, .int .i64 0, .int .i64 0, .int .i64 0, .int .i64 0, .int .i64 0, .int .i64 0, .int .i64 0, .int .i64 0, .int .i64 0, .int .i64 0, .int .i64 0, .int .i64 0, .int .i64 0, .int .i64 0, .int .i64 0, .int .i64 0, .int .i64 0, .int .i64 0, .int .i64 0, .int .i64 0] 35) := by
  have hmk : ∀ w : World, (Instr.makeSlice 29 (.int .i64 8) (.int .i64 8)).run Tryd.prog w = .ok (.slice (some ⟨w.heap.size, 0, none⟩) 8 8) (w.alloc (.cells #[.int .i64 0, .int .i64 0, .int .i64 0, .int .i64 0, .int .i64 0, .int .i64 0, .int .i64 0, .int .i64 0, .int .i64 0, .int .i64 0, .int .i64 0, .int .i64 0, .int .i64 0, .int .i64 0, .int .i64 0, .int .i64 0, .int .i64 0, .int .i64 0, .int .i64 0, .int .i64 0, .int .i64 0, .int .i64 0, .int .i64 0, .int .i64 0] 35)) := fun _ => by kernel_rfl
  go_enter Tryd.func35, Tryd.ntmps35
  go_wp2
  go_ret
  exact ⟨rfl, rfl⟩

def zk (n : Nat) : List Kd := List.replicate n (0, 0, 0)
def hdL : List Kd := (1, 0, 0) :: (2, 0, 0) :: zk 6
def annL (t : Nat) : List Kd := (3, (t : Int), 0) :: (4, (t : Int), 0) :: zk 6
def recL (t : Nat) : List Kd := (5, (t : Int), 0) :: (5, (t : Int), 1) :: (5, (t : Int), 2) :: zk 5
def slotL (t n : Nat) : List Kd := (List.range n).map fun i : Nat => ((7, (t : Int), (i : Int)) : Kd)
def blockL (b n : Nat) : List Kd := (List.range n).map fun i : Nat => ((9, (b : Int), (i : Int)) : Kd)


theorem Ks.alloc {w : World} {base : Nat} {v : Value} {l : List Kd} (h : Ks w base v l) (o : Obj) : Ks (w.alloc o) base v l := Own.alloc h o
theorem Ks.ext {w : World} {base : Nat} {v : Value} {l : List Kd} (h : Ks w base v l) (r : Xt) : Ks (ext w r) base v l := Own.ext h r

theorem Tryd.infoKind : (Tryd.prog.info? 35).map (fun i => (i.zero, i.size, i.bytes)) = some (some (.agg #[.int .i64 0, .int .i64 0, .int .i64 0]), 3, 24) := by kernel_rfl

theorem ks_append {ops : Array Oper} {rest : List Oper} {o : Oper} {a : Act} {Q : Exit → Act → World → Prop} {w : World} {base : Nat} {v : Value} {l : List Kd} (hgd : o.guard = none)
    (s x : Operand) (ho : o.op = .call { callee := .builtin .append, args := #[s, x], argTypes := #[29, 29] })
    (W : World) (hW : Ext W w) (hWb : W.heap.size ≤ base) (hbw : base ≤ w.heap.size) (hs : a.eval s = v) (hown : Ks w base v l)
    (ad : Addr) (m c : Nat) (hx : a.eval x = .slice (some ad) m c) (news : List Kd) (hm : news.length = m)
    (hnews : ∀ (j : Nat) (u : Value), (news.flatMap kdE)[j]? = some u → w.cell? (ad.add j) = some u)
    (hlen : l.length + m ≤ 1000000)
    (h : ∀ v' r, Ks (ext W r) base v' (l ++ news) → wpList Tryd.prog ops Q rest (a.put o.dst v') (ext W r)) : wpList Tryd.prog ops Q (o :: rest) a w := by
  obtain ⟨i0, hi, hz0, hz1, hz2⟩ := info_parts Tryd.infoKind
  exact own_append Tryd.underlying29 hi hz0 hz1 hz2 rfl (by decide) kdE_len kdE_one hgd s x ho W hW hWb hbw hs hown ad m c hx news hm hnews (by unfold maxLen; omega) (by omega) h

def out1 (k : Nat) : List Kd := hdL ++ (List.range k).flatMap fun i => annL (i + 1)
theorem out1_succ (k : Nat) : out1 (k + 1) = out1 k ++ annL (k + 1) := by simp [out1, List.range_succ]
theorem out1_len (k : Nat) : (out1 k).length = 8 + 8 * k := by
  induction k with
  | zero => rfl
  | succ k ih => rw [out1_succ, List.length_append, ih]; simp [annL, zk]; omega
def out2 (T k : Nat) : List Kd := out1 T ++ (List.range k).flatMap fun i => recL (i + 1)
theorem out2_succ (T k : Nat) : out2 T (k + 1) = out2 T k ++ recL (k + 1) := by simp [out2, List.range_succ]
theorem out2_len (T k : Nat) : (out2 T k).length = 8 + 8 * T + 8 * k := by
  induction k with
  | zero => simp [out2, out1_len]
  | succ k ih => rw [out2_succ, List.length_append, ih]; simp [recL, zk]; omega

def out3 (T k : Nat) : List Kd := out2 T T ++ (List.range k).map fun i : Nat => ((6, (i : Int), 0) : Kd)
theorem out3_succ (T k : Nat) : out3 T (k + 1) = out3 T k ++ [(6, (k : Int), 0)] := by simp [out3, List.range_succ]
theorem out3_len (T k : Nat) : (out3 T k).length = 8 + 16 * T + k := by simp [out3, out2_len]; omega
/-- Filled up by k. -/
def out4 (T C k : Nat) : List Kd := out3 T C ++ zk k
theorem out4_succ (T C k : Nat) : out4 T C (k + 1) = out4 T C k ++ [(0, 0, 0)] := by simp [out4, zk, List.replicate_succ']
theorem out4_len (T C k : Nat) : (out4 T C k).length = 8 + 16 * T + C + k := by simp [out4, out3_len, zk]
/-- How much is filled up. -/
def padN (C : Nat) : Nat := (8 - C % 8) % 8
def out5 (T C k : Nat) : List Kd := out4 T C (padN C) ++ (List.range k).flatMap fun i => slotL (i + 1) 104
theorem out5_succ (T C k : Nat) : out5 T C (k + 1) = out5 T C k ++ slotL (k + 1) 104 := by simp [out5, List.range_succ]
theorem slotL_succ (t k : Nat) : slotL t (k + 1) = slotL t k ++ [(7, (t : Int), (k : Int))] := by simp [slotL, List.range_succ]
theorem slotL_len (t k : Nat) : (slotL t k).length = k := by simp [slotL]
theorem out5_len (T C k : Nat) : (out5 T C k).length = 8 + 16 * T + C + padN C + 104 * k := by
  induction k with
  | zero => simp [out5, out4_len]
  | succ k ih => rw [out5_succ, List.length_append, ih, slotL_len]; omega
def bitsL : List Kd := (8, 0, 0) :: (8, 1, 0) :: zk 6
def out6 (T C B : Nat) : List Kd := out5 T C T ++ if 0 < B then bitsL else []
theorem out6_len (T C B : Nat) : (out6 T C B).length = 8 + 16 * T + C + padN C + 104 * T + if 0 < B then 8 else 0 := by
  simp only [out6, List.length_append, out5_len]; split <;> simp [bitsL, zk]
def out7 (T C B k : Nat) : List Kd := out6 T C B ++ (List.range k).flatMap fun i => blockL i 32
theorem out7_succ (T C B k : Nat) : out7 T C B (k + 1) = out7 T C B k ++ blockL k 32 := by simp [out7, List.range_succ]
theorem blockL_succ (t k : Nat) : blockL t (k + 1) = blockL t k ++ [(9, (t : Int), (k : Int))] := by simp [blockL, List.range_succ]
theorem blockL_len (t k : Nat) : (blockL t k).length = k := by simp [blockL]
theorem out7_len (T C B k : Nat) : (out7 T C B k).length = 8 + 16 * T + C + padN C + 104 * T + (if 0 < B then 8 else 0) + 32 * k := by
  induction k with
  | zero => simp [out7, out6_len]
  | succ k ih => rw [out7_succ, List.length_append, ih, blockL_len]; omega
/-- Plain: the uses of all locations. -/
def allL (T C B : Nat) : List Kd := out7 T C B B

set_option maxRecDepth 100000 in
set_option maxHeartbeats 2000000 in
theorem all_any (T C B : Nat) (hT1 : 1 ≤ T) (hT : T ≤ 8) (hC1 : 1 ≤ C) (hC : C ≤ 2048) (hB : B ≤ 64) (w : World) :
    Calls Tryd.prog 31 #[.int .i64 T, .int .i64 C, .int .i64 B] w fun e w' => ∃ v, e = .returned v ∧ (∃ r, w' = ext w r) ∧ Ks w' w.heap.size v (allL T C B) := by
  go_enter Tryd.func31, Tryd.ntmps31
  go_wp2_with fail
  go_call (line_any _) as e w' ⟨rfl, rfl⟩
  go_wp2_with fail
  go_loopw [7, 8] (fun v i wr => ∃ k : Nat, k ≤ T ∧ i = .int .i64 (k + 1) ∧ Ks wr w.heap.size v (out1 k) ∧ Ext w wr) (fun _ i _ => T + 1 - (intOf i).toNat)
  case atStart => exact ⟨0, by omega, rfl, Own.made _ _ 8 rfl (Nat.le_refl _) (by unfold maxLen; omega) rfl rfl, by (show Ext _ _; repeat (first | with_reducible exact Ext.refl _ | with_reducible refine Ext.ext ?_ _ | with_reducible refine Ext.alloc ?_ _ | refine Ext.drew ?_ | refine Ext.drewN ?_ _ | exact Ext.refl _))⟩
  case round =>
    obtain ⟨k, hk, rfl, hv, r, rfl⟩ := hrel
    have HV := hid hv
    have HL := hid (out1_len k)
    clear hv
    go_wp2_with fail
    · go_call (line_any _) as e w' ⟨rfl, rfl⟩
      go_wp2_with (at_builtin; refine ks_append rfl _ _ rfl w (by (show Ext _ _; repeat (first | with_reducible exact Ext.refl _ | with_reducible refine Ext.ext ?_ _ | with_reducible refine Ext.alloc ?_ _ | refine Ext.drew ?_ | refine Ext.drewN ?_ _ | exact Ext.refl _))) (Nat.le_refl _) (by (first | exact Nat.le_refl _ | (simp only [World.size_alloc, World.size_setCell, World.size_drew, size_ext]; omega))) rfl (HV.out.alloc _) _ 8 8 rfl (annL (k + 1)) rfl (news_new rfl _ (by (first | rfl | (simp only [World.size_alloc, World.size_setCell, World.size_drew, size_ext])))) (by have := HL.out; omega) ?_; rintro v' r' hv')
      go_roundw
      case rel => exact ⟨k + 1, by omega, by go_num, by rw [out1_succ]; assumption, by (show Ext _ _; repeat (first | with_reducible exact Ext.refl _ | with_reducible refine Ext.ext ?_ _ | with_reducible refine Ext.alloc ?_ _ | refine Ext.drew ?_ | refine Ext.drewN ?_ _ | exact Ext.refl _))⟩
      case measure => simp [intOf]; omega
    · obtain rfl : k = T := by omega
      go_loopw [7, 10] (fun v i wr => ∃ j : Nat, j ≤ k ∧ i = .int .i64 (j + 1) ∧ Ks wr w.heap.size v (out2 k j) ∧ Ext w wr) (fun _ i _ => k + 1 - (intOf i).toNat)
      case atStart => exact ⟨0, by omega, rfl, by simp only [out2, List.range_zero, List.flatMap_nil, List.append_nil]; exact HV.out, by (show Ext _ _; repeat (first | with_reducible exact Ext.refl _ | with_reducible refine Ext.ext ?_ _ | with_reducible refine Ext.alloc ?_ _ | refine Ext.drew ?_ | refine Ext.drewN ?_ _ | exact Ext.refl _))⟩
      case round =>
        clear HV HL
        obtain ⟨j, hj, rfl, hv, r, rfl⟩ := hrel
        have HV := hid hv
        have HL := hid (out2_len k j)
        clear hv
        go_wp2_with fail
        · go_call (line_any _) as e w' ⟨rfl, rfl⟩
          go_wp2_with fail
          refine wp_loop_rounds 4 ?_
          rw [rounds_succ]
          go_wp2_with fail
          rw [rounds_succ]
          go_wp2_with fail
          rw [rounds_succ]
          go_wp2_with fail
          rw [rounds_succ]
          go_wp2_with (at_builtin; refine ks_append rfl _ _ rfl w (by (show Ext _ _; repeat (first | with_reducible exact Ext.refl _ | with_reducible refine Ext.ext ?_ _ | with_reducible refine Ext.alloc ?_ _ | refine Ext.drew ?_ | refine Ext.drewN ?_ _ | exact Ext.refl _))) (Nat.le_refl _) (by (first | exact Nat.le_refl _ | (simp only [World.size_alloc, World.size_setCell, World.size_drew, size_ext]; omega))) rfl (HV.out.alloc _) _ 8 8 rfl (recL (j + 1)) rfl (news_new rfl _ (by (first | rfl | (simp only [World.size_alloc, World.size_setCell, World.size_drew, size_ext])))) (by have := HL.out; omega) ?_; rintro v' r' hv')
          go_roundw
          case rel => exact ⟨j + 1, by omega, by go_num, by rw [out2_succ]; assumption, by (show Ext _ _; repeat (first | with_reducible exact Ext.refl _ | with_reducible refine Ext.ext ?_ _ | with_reducible refine Ext.alloc ?_ _ | refine Ext.drew ?_ | refine Ext.drewN ?_ _ | exact Ext.refl _))⟩
          case measure => simp [intOf]; omega
        · obtain rfl : j = k := by omega
          go_loopw [7, 13] (fun v i wr => ∃ q : Nat, q ≤ C ∧ i = .int .i64 q ∧ Ks wr w.heap.size v (out3 j q) ∧ Ext w wr) (fun _ i _ => C - (intOf i).toNat)
          case atStart => exact ⟨0, by omega, rfl, by simp only [out3, List.range_zero, List.map_nil, List.append_nil]; exact HV.out, by (show Ext _ _; repeat (first | with_reducible exact Ext.refl _ | with_reducible refine Ext.ext ?_ _ | with_reducible refine Ext.alloc ?_ _ | refine Ext.drew ?_ | refine Ext.drewN ?_ _ | exact Ext.refl _))⟩
          case round =>
            clear HV HL
            obtain ⟨q, hq, rfl, hv, r, rfl⟩ := hrel
            have HV := hid hv
            have HL := hid (out3_len j q)
            clear hv
            by_cases hqC : q < C
            · have hd : decide (q < C) = true := decide_eq_true hqC
              go_wp2_with (at_builtin; refine ks_append rfl _ _ rfl w (by (show Ext _ _; repeat (first | with_reducible exact Ext.refl _ | with_reducible refine Ext.ext ?_ _ | with_reducible refine Ext.alloc ?_ _ | refine Ext.drew ?_ | refine Ext.drewN ?_ _ | exact Ext.refl _))) (Nat.le_refl _) (by (first | exact Nat.le_refl _ | (simp only [World.size_alloc, World.size_setCell, World.size_drew, size_ext]; omega))) rfl (HV.out.alloc _) _ 1 1 rfl ([(6, (q : Int), 0)]) rfl (news_new rfl _ (by (first | rfl | (simp only [World.size_alloc, World.size_setCell, World.size_drew, size_ext])))) (by have := HL.out; omega) ?_; rintro v' r' hv')
              go_roundw
              case rel => exact ⟨q + 1, by omega, by go_num, by rw [out3_succ]; assumption, by (show Ext _ _; repeat (first | with_reducible exact Ext.refl _ | with_reducible refine Ext.ext ?_ _ | with_reducible refine Ext.alloc ?_ _ | refine Ext.drew ?_ | refine Ext.drewN ?_ _ | exact Ext.refl _))⟩
              case measure => simp [intOf]; omega
            · have hd : decide (q < C) = false := decide_eq_false hqC
              go_wp2_with fail
              obtain rfl : q = C := by omega
              clear hd
              go_loopw [7] (fun v wr => ∃ (p : Nat) (a : Option Addr) (cp : Nat), p ≤ padN q ∧ v = .slice a (8 + 16 * j + q + p) cp ∧ Ks wr w.heap.size v (out4 j q p) ∧ Ext w wr) (fun v _ => 8 + 16 * j + q + padN q - lenOfV v)
              case atStart =>
                obtain ⟨a, cp, ha⟩ := Own.shape HV.out
                exact ⟨0, a, cp, Nat.zero_le _, by rw [ha, HL.out]; rfl, by simp only [out4, zk, List.replicate_zero, List.append_nil]; exact HV.out, by (show Ext _ _; repeat (first | with_reducible exact Ext.refl _ | with_reducible refine Ext.ext ?_ _ | with_reducible refine Ext.alloc ?_ _ | refine Ext.drew ?_ | refine Ext.drewN ?_ _ | exact Ext.refl _))⟩
              case round =>
                clear HV HL
                obtain ⟨p, a, cp, hp, rfl, hv, r, rfl⟩ := hrel
                have HV := hid hv
                have HL := hid (out4_len j q p)
                have hpad : padN q ≤ 7 := by unfold padN; omega
                clear hv
                by_cases hm : (8 + 16 * j + q + p) % 8 = 0
                · have hm' : ((8 + 16 * (j : Int) + (q : Int) + (p : Int)) % 8 != 0) = false := by simp; omega
                  have HP : Hid (p = padN q) := hid (by unfold padN at hp ⊢; omega)
                  clear hm
                  go_wp2_with fail
                  go_loopw [7, 14] (fun v i wr => ∃ k : Nat, k ≤ j ∧ i = .int .i64 (k + 1) ∧ Ks wr w.heap.size v (out5 j q k) ∧ Ext w wr) (fun _ i _ => j + 1 - (intOf i).toNat)
                  case atStart => exact ⟨0, by omega, rfl, (by have h1 := HV.out; have h2 : out4 j q p = out5 j q 0 := (by rw [HP.out]; simp [out5]); rw [h2] at h1; exact h1), by (show Ext _ _; repeat (first | with_reducible exact Ext.refl _ | with_reducible refine Ext.ext ?_ _ | with_reducible refine Ext.alloc ?_ _ | refine Ext.drew ?_ | refine Ext.drewN ?_ _ | exact Ext.refl _))⟩
                  case round =>
                    clear HV HL HP
                    obtain ⟨k, hk, rfl, hv, r, rfl⟩ := hrel
                    have HV := hid hv
                    have HL := hid (out5_len j q k)
                    clear hv
                    by_cases hkj : k < j
                    · have hd : decide ((k : Int) + 1 ≤ (j : Int)) = true := by simp; omega
                      go_wp2_with fail
                      go_loopw [7, 15] (fun v i wr => ∃ y : Nat, y ≤ 104 ∧ i = .int .i64 y ∧ Ks wr w.heap.size v (out5 j q k ++ slotL (k + 1) y) ∧ Ext w wr) (fun _ i _ => 104 - (intOf i).toNat)
                      case atStart => exact ⟨0, by omega, rfl, by simp only [slotL, List.range_zero, List.map_nil, List.append_nil]; exact HV.out, by (show Ext _ _; repeat (first | with_reducible exact Ext.refl _ | with_reducible refine Ext.ext ?_ _ | with_reducible refine Ext.alloc ?_ _ | refine Ext.drew ?_ | refine Ext.drewN ?_ _ | exact Ext.refl _))⟩
                      case round =>
                        clear HV
                        obtain ⟨y, hy, rfl, hv, r, rfl⟩ := hrel
                        have HV := hid hv
                        have HL2 := hid (slotL_len (k + 1) y)
                        clear hv
                        go_wp2_with (at_builtin; refine ks_append rfl _ _ rfl w (by (show Ext _ _; repeat (first | with_reducible exact Ext.refl _ | with_reducible refine Ext.ext ?_ _ | with_reducible refine Ext.alloc ?_ _ | refine Ext.drew ?_ | refine Ext.drewN ?_ _ | exact Ext.refl _))) (Nat.le_refl _) (by (first | exact Nat.le_refl _ | (simp only [World.size_alloc, World.size_setCell, World.size_drew, size_ext]; omega))) rfl (HV.out.alloc _) _ 1 1 rfl ([(7, ((k + 1 : Nat) : Int), (y : Int))]) rfl (news_new rfl _ (by (first | rfl | (simp only [World.size_alloc, World.size_setCell, World.size_drew, size_ext])))) (by rw [List.length_append, HL.out, HL2.out]; omega) ?_; rintro v' r' hv')
                        · go_roundw
                          case rel => exact ⟨y + 1, by omega, by go_num, by rw [slotL_succ, ← List.append_assoc]; assumption, by (show Ext _ _; repeat (first | with_reducible exact Ext.refl _ | with_reducible refine Ext.ext ?_ _ | with_reducible refine Ext.alloc ?_ _ | refine Ext.drew ?_ | refine Ext.drewN ?_ _ | exact Ext.refl _))⟩
                          case measure => simp [intOf]; omega
                        · obtain rfl : y = 104 := by omega
                          go_roundw
                          case rel => exact ⟨k + 1, by omega, by go_num, by rw [out5_succ]; exact HV.out, by (show Ext _ _; repeat (first | with_reducible exact Ext.refl _ | with_reducible refine Ext.ext ?_ _ | with_reducible refine Ext.alloc ?_ _ | refine Ext.drew ?_ | refine Ext.drewN ?_ _ | exact Ext.refl _))⟩
                          case measure => simp [intOf]; omega
                    · obtain rfl : k = j := by omega
                      clear hkj
                      by_cases hB0 : 0 < B
                      · have hB1 : (0 : Int) < (B : Int) := by omega
                        have HC := hid (show out6 k q B = out5 k q k ++ bitsL by simp [out6, hB0])
                        go_wp2_with fail
                        go_call (line_any _) as e w' ⟨rfl, rfl⟩
                        go_wp2_with (at_builtin; refine ks_append rfl _ _ rfl w (by (show Ext _ _; repeat (first | with_reducible exact Ext.refl _ | with_reducible refine Ext.ext ?_ _ | with_reducible refine Ext.alloc ?_ _ | refine Ext.drew ?_ | refine Ext.drewN ?_ _ | exact Ext.refl _))) (Nat.le_refl _) (by (first | exact Nat.le_refl _ | (simp only [World.size_alloc, World.size_setCell, World.size_drew, size_ext]; omega))) rfl (HV.out.alloc _) _ 8 8 rfl (bitsL) rfl (news_new rfl _ (by (first | rfl | (simp only [World.size_alloc, World.size_setCell, World.size_drew, size_ext])))) (by have := HL.out; omega) ?_; rintro v' r' hv')
                        have hv2 : Ks (ext w r') w.heap.size v' (out6 k q B) := by rw [HC.out]; assumption
                        have HO := hid hv2
                        clear HV HL hv2 hv'
                        go_loopw [7, 17] (fun v i wr => ∃ t : Nat, t ≤ B ∧ i = .int .i64 t ∧ Ks wr w.heap.size v (out7 k q B t) ∧ Ext w wr) (fun _ i _ => B - (intOf i).toNat)
                        case atStart => exact ⟨0, by omega, rfl, by simp only [out7, List.range_zero, List.flatMap_nil, List.append_nil]; exact HO.out, by (show Ext _ _; repeat (first | with_reducible exact Ext.refl _ | with_reducible refine Ext.ext ?_ _ | with_reducible refine Ext.alloc ?_ _ | refine Ext.drew ?_ | refine Ext.drewN ?_ _ | exact Ext.refl _))⟩
                        case round =>
                          clear HO
                          obtain ⟨t, ht, rfl, hv, r, rfl⟩ := hrel
                          have HV := hid hv
                          have HL := hid (out7_len k q B t)
                          clear hv
                          by_cases htB : t < B
                          · have hd : decide (t < B) = true := by simp; omega
                            go_wp2_with fail
                            go_loopw [7, 18] (fun v i wr => ∃ y : Nat, y ≤ 32 ∧ i = .int .i64 y ∧ Ks wr w.heap.size v (out7 k q B t ++ blockL t y) ∧ Ext w wr) (fun _ i _ => 32 - (intOf i).toNat)
                            case atStart => exact ⟨0, by omega, rfl, by simp only [blockL, List.range_zero, List.map_nil, List.append_nil]; exact HV.out, by (show Ext _ _; repeat (first | with_reducible exact Ext.refl _ | with_reducible refine Ext.ext ?_ _ | with_reducible refine Ext.alloc ?_ _ | refine Ext.drew ?_ | refine Ext.drewN ?_ _ | exact Ext.refl _))⟩
                            case round =>
                              clear HV
                              obtain ⟨y, hy, rfl, hv, r, rfl⟩ := hrel
                              have HV := hid hv
                              have HL2 := hid (blockL_len t y)
                              clear hv
                              go_wp2_with (at_builtin; refine ks_append rfl _ _ rfl w (by (show Ext _ _; repeat (first | with_reducible exact Ext.refl _ | with_reducible refine Ext.ext ?_ _ | with_reducible refine Ext.alloc ?_ _ | refine Ext.drew ?_ | refine Ext.drewN ?_ _ | exact Ext.refl _))) (Nat.le_refl _) (by (first | exact Nat.le_refl _ | (simp only [World.size_alloc, World.size_setCell, World.size_drew, size_ext]; omega))) rfl (HV.out.alloc _) _ 1 1 rfl ([(9, (t : Int), (y : Int))]) rfl (news_new rfl _ (by (first | rfl | (simp only [World.size_alloc, World.size_setCell, World.size_drew, size_ext])))) (by rw [List.length_append, HL.out, HL2.out]; split <;> omega) ?_; rintro v' r' hv')
                              · go_roundw
                                case rel => exact ⟨y + 1, by omega, by go_num, by rw [blockL_succ, ← List.append_assoc]; assumption, by (show Ext _ _; repeat (first | with_reducible exact Ext.refl _ | with_reducible refine Ext.ext ?_ _ | with_reducible refine Ext.alloc ?_ _ | refine Ext.drew ?_ | refine Ext.drewN ?_ _ | exact Ext.refl _))⟩
                                case measure => simp [intOf]; omega
                              · obtain rfl : y = 32 := by omega
                                go_roundw
                                case rel => exact ⟨t + 1, by omega, by go_num, by rw [out7_succ]; exact HV.out, by (show Ext _ _; repeat (first | with_reducible exact Ext.refl _ | with_reducible refine Ext.ext ?_ _ | with_reducible refine Ext.alloc ?_ _ | refine Ext.drew ?_ | refine Ext.drewN ?_ _ | exact Ext.refl _))⟩
                                case measure => simp [intOf]; omega
                          · obtain rfl : t = B := by omega
                            go_wp2_with fail
                            go_ret
                            exact ⟨_, rfl, by (show Ext _ _; repeat (first | with_reducible exact Ext.refl _ | with_reducible refine Ext.ext ?_ _ | with_reducible refine Ext.alloc ?_ _ | refine Ext.drew ?_ | refine Ext.drewN ?_ _ | exact Ext.refl _)), HV.out⟩
                      · have hB1 : ¬ (0 : Int) < (B : Int) := by omega
                        have HO : Hid (Ks (ext w r) w.heap.size u7 (out6 k q B)) := hid (by rw [show out6 k q B = out5 k q k by simp [out6, hB0]]; exact HV.out)
                        go_wp2_with fail
                        clear HV HL
                        go_loopw [7, 17] (fun v i wr => ∃ t : Nat, t ≤ B ∧ i = .int .i64 t ∧ Ks wr w.heap.size v (out7 k q B t) ∧ Ext w wr) (fun _ i _ => B - (intOf i).toNat)
                        case atStart => exact ⟨0, by omega, rfl, by simp only [out7, List.range_zero, List.flatMap_nil, List.append_nil]; exact HO.out, by (show Ext _ _; repeat (first | with_reducible exact Ext.refl _ | with_reducible refine Ext.ext ?_ _ | with_reducible refine Ext.alloc ?_ _ | refine Ext.drew ?_ | refine Ext.drewN ?_ _ | exact Ext.refl _))⟩
                        case round =>
                          clear HO
                          obtain ⟨t, ht, rfl, hv, r, rfl⟩ := hrel
                          have HV := hid hv
                          have HL := hid (out7_len k q B t)
                          clear hv
                          by_cases htB : t < B
                          · exact absurd htB (by omega)
                          · obtain rfl : t = B := by omega
                            go_wp2_with fail
                            go_ret
                            exact ⟨_, rfl, by (show Ext _ _; repeat (first | with_reducible exact Ext.refl _ | with_reducible refine Ext.ext ?_ _ | with_reducible refine Ext.alloc ?_ _ | refine Ext.drew ?_ | refine Ext.drewN ?_ _ | exact Ext.refl _)), HV.out⟩
                · have hm' : ((8 + 16 * (j : Int) + (q : Int) + (p : Int)) % 8 != 0) = true := by simp; omega
                  have HP : Hid (p < padN q) := hid (by unfold padN at hp ⊢; omega)
                  clear hm
                  go_wp2_with (at_builtin; refine ks_append rfl _ _ rfl w (by (show Ext _ _; repeat (first | with_reducible exact Ext.refl _ | with_reducible refine Ext.ext ?_ _ | with_reducible refine Ext.alloc ?_ _ | refine Ext.drew ?_ | refine Ext.drewN ?_ _ | exact Ext.refl _))) (Nat.le_refl _) (by (first | exact Nat.le_refl _ | (simp only [World.size_alloc, World.size_setCell, World.size_drew, size_ext]; omega))) rfl (HV.out.alloc _) _ 1 1 rfl ([(0, 0, 0)]) rfl (news_new rfl _ (by (first | rfl | (simp only [World.size_alloc, World.size_setCell, World.size_drew, size_ext])))) (by have := HL.out; omega) ?_; rintro v' r' hv')
                  rename_i hv'
                  have hv2 : Ks (ext w r') w.heap.size v' (out4 j q (p + 1)) := by rw [out4_succ]; exact hv'
                  obtain ⟨a', cp', ha⟩ := Own.shape hv2
                  rw [out4_len] at ha
                  have hl : lenOfV v' = 8 + 16 * j + q + (p + 1) := by rw [ha]; rfl
                  refine ⟨⟨p + 1, a', cp', HP.out, ha, hv2, by (show Ext _ _; repeat (first | with_reducible exact Ext.refl _ | with_reducible refine Ext.ext ?_ _ | with_reducible refine Ext.alloc ?_ _ | refine Ext.drew ?_ | refine Ext.drewN ?_ _ | exact Ext.refl _))⟩, ?_⟩
                  · show 8 + 16 * j + q + padN q - lenOfV v' < 8 + 16 * j + q + padN q - (8 + 16 * j + q + p)
                    have := HP.out
                    omega

end Go.Proofs.YtoaghifcgjpijaaDoor
