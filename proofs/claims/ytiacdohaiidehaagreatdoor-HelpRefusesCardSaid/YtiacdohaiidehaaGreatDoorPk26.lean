/- The walk of the layout's First. Walks of package word's inner functions: Ref, Who, kind, Plain. Walks of package entry's inner functions: wrong, and the search by location. -/
import Derived.Test.YtiacdohaiidehaaGreatDoorPk25
import Derived.Test.YtiacdohaiidehaaGreatDoorPk03
import Derived.Test.YtiacdohaiidehaaGreatDoorRows
namespace Go.Proofs.YtiacdohaiidehaaGreatDoor
set_option linter.unusedSimpArgs false
set_option linter.unusedVariables false
open Go.RowKit
def first0 (n : Nat) : List Wd := (List.replicate n ((0, 0, 0) : Wd)).set 1 (1, 0, 0)
def first1 (t c b : Int) (n : Nat) : Nat → List Wd
 | 0 => first0 n
 | k + 1 => (first1 t c b n k).set (fromN t c b 4 + k * 104).toNat (2, 0, 0)
def first2 (t c b : Int) (n T : Nat) : Nat → List Wd
 | 0 => first1 t c b n T
 | k + 1 => (first2 t c b n T k).set (fromN t c b 6 + k * 32).toNat (2, 0, 0)
def firstL (t c b : Int) : List Wd := if rightN t c b = true then first2 t c b (fromN t c b 7).toNat t.toNat b.toNat else []
theorem first1_len (t c b : Int) (n k : Nat) : (first1 t c b n k).length = n := by
 induction k with
 | zero => simp [first1, first0]
 | succ k ih => simp [first1, ih]
theorem first2_len (t c b : Int) (n T k : Nat) : (first2 t c b n T k).length = n := by
 induction k with
 | zero => simp [first2, first1_len]
 | succ k ih => simp [first2, ih]
theorem first1_zero (t c b : Int) (n k : Nat) : ∀ (q : Nat) (x : Wd), (first1 t c b n k)[q]? = some x → x.2 = (0, 0) := by
 induction k with
 | zero =>
  intro q x h
  simp only [first1, first0, List.getElem?_set, List.getElem?_replicate] at h
  split at h
  ·split at h
   ·simp at h; rw [← h]
   ·simp at h
  ·split at h
   ·simp at h; rw [← h]
   ·simp at h
 | succ k ih =>
  intro q x h
  simp only [first1, List.getElem?_set] at h
  split at h
  ·split at h
   ·simp at h; rw [← h]
   ·simp at h
  ·exact ih q x h
theorem first2_zero (t c b : Int) (n T k : Nat) : ∀ (q : Nat) (x : Wd), (first2 t c b n T k)[q]? = some x → x.2 = (0, 0) := by
 induction k with
 | zero => exact first1_zero t c b n T
 | succ k ih =>
  intro q x h
  simp only [first2, List.getElem?_set] at h
  split at h
  ·split at h
   ·simp at h; rw [← h]
   ·simp at h
  ·exact ih q x h
theorem from_le7 {t c b : Int} (hk : Lok t c b) : fromN t c b 4 + t * 104 ≤ fromN t c b 7 ∧ fromN t c b 6 + b * 32 ≤ fromN t c b 7 ∧ 8 ≤ fromN t c b 4 ∧ 8 ≤ fromN t c b 6 ∧ 8 ≤ fromN t c b 7 := by
 obtain ⟨h1, h2, h3, h4, h5, h6⟩ := hk
 simp only [fromN, longN, manyN, szN, upN]
 simp
 split <;> omega
set_option maxRecDepth 100000 in
set_option maxHeartbeats 2000000 in
theorem first_any (t c b : Int) (w : World) (hs : Szs w) :
 Calls Tryz.prog 70 #[.agg #[.int .i64 t, .int .i64 c, .int .i64 b]] w fun e w' => ∃ v, e = .returned v ∧ (∃ r, w' = ext w r) ∧ Ws w' w.heap.size v (firstL t c b) := by
 have HS := hid hs
 clear hs
 cases hr : rightN t c b
 ·have HC := hid hr
  have HF := hid (show firstL t c b = [] by simp [firstL, hr])
  clear hr
  go_enter Tryz.func70, Tryz.ntmps70
  go_wp2_with fail
  go_call (right_any t c b _ (HS.out.alloc _)) as e w' ⟨rfl, r, rfl⟩
  rw [HC.out]
  go_wp2_with fail
  go_ret
  exact ⟨_, rfl, by exact exP, by rw [HF.out]; exact Own.nil⟩
 ·have hk := (right_lok hr).1
  have h4096 := (right_lok hr).2
  have HK := hid hk
  obtain ⟨h1, h2, h3, h4, h5, h6⟩ := hk
  obtain ⟨T, rfl⟩ := Int.eq_ofNat_of_zero_le (show 0 ≤ t by omega)
  obtain ⟨B, rfl⟩ := Int.eq_ofNat_of_zero_le h5
  obtain ⟨N, hN⟩ := Int.eq_ofNat_of_zero_le (show 0 ≤ fromN T c B 7 from (from_bd HK.out 7).1)
  have HN := hid hN
  have hN4 : N ≤ 4096 := by omega
  have HZ := hid (show sizeN T c B = N by simp [sizeN, hr, hN])
  have HA := hid (show atN T c B 0 0 1 = 1 by simp [atN, hr, manyN, fromN])
  have HF := hid (show firstL T c B = first2 T c B N T B by simp [firstL, hr, hN])
  have HL7 := hid (from_le7 HK.out)
  have HR := hid hr
  have HM := hid mk_words
  clear hr hN
  go_enter Tryz.func70, Tryz.ntmps70
  go_wp2_with fail
  go_call (right_any T c B _ (HS.out.alloc _)) as e w' ⟨rfl, r, rfl⟩
  rw [HR.out]
  go_wp2_with fail
  go_call (size_any T c B _ ((HS.out.alloc _).ext _)) as e w' ⟨rfl, r2, rfl⟩
  rw [HZ.out]
  have hmk := HM.out N (by omega)
  go_wp2_with fail
  clear hmk
  have hown := Ws.made N (by omega) (ext (ext (w.alloc (.cells #[.int .i64 T, .int .i64 c, .int .i64 B] 30)) r) r2) w.heap.size (by (first | exact Nat.le_refl _ | (simp; done) | (simp; omega)))
  obtain ⟨r3, g, hw, hg, hg1, hg2⟩ := opaque_new (W := w.alloc (.cells #[.int .i64 T, .int .i64 c, .int .i64 B] 30)) (X := ext (ext (w.alloc (.cells #[.int .i64 T, .int .i64 c, .int .i64 B] 30)) r) r2) (by exact exP) (.cells (madeCells #[.int .i64 0, .int .u32 0, .int .u32 0] (N * 3)) 44) (n := w.heap.size + 1 + r.new.size + r2.new.size) (by simp only [size_ext, World.size_alloc])
  have hgs : (ext (ext (w.alloc (.cells #[.int .i64 T, .int .i64 c, .int .i64 B] 30)) r) r2).heap.size = g := by simp only [size_ext, World.size_alloc]; exact hg
  rw [hgs, hw] at hown
  rw [hw, hg]
  have HO := hid hown
  have hg3 : w.heap.size + 1 ≤ g := by simpa using hg1
  simp only [size_ext, World.size_alloc] at hg2
  have hN8 : 8 ≤ N := by have := HL7.out; have := HN.out; omega
  clear hown hw hg hgs hg1 r r2
  obtain ⟨x0, hx0, hc0⟩ := Ws.cellVal HO.out (q := 1) (by simp; omega)
  have hf0 := Ws.free HO.out 3
  have HX0 : Hid (x0.2 = (0, 0)) := hid (by
   rw [List.getElem?_replicate] at hx0
   split at hx0
   ·simp at hx0; rw [← hx0]
   ·simp at hx0)
  have HX := hid hx0
  clear hx0
  simp only [Nat.one_mul] at hc0
  go_call (era_any T c B _ ((HS.out.alloc _).ext _)) as e w' ⟨rfl, r4, rfl⟩
  rw [HA.out]
  go_wp2_with fail
  have hs0 := Ws.setVal (HO.out.ext r4) HX.out HX0.out 1 (o := 3) (by omega)
  have hE0 : Ext (w.alloc (.cells #[.int .i64 T, .int .i64 c, .int .i64 B] 30)) ((ext (ext (w.alloc (.cells #[.int .i64 T, .int .i64 c, .int .i64 B] 30)) r3) r4).setCell ⟨g, 3, none⟩ (.int .i64 1)) := Ext.setCell (by exact exP) (by simpa using hg3) _
  obtain ⟨P4, hP4⟩ := Int.eq_ofNat_of_zero_le (from_bd HK.out 4).1
  obtain ⟨P6, hP6⟩ := Int.eq_ofNat_of_zero_le (from_bd HK.out 6).1
  have HP4 := hid hP4
  have HP6 := hid hP6
  clear hP4 hP6
  have HS0 := hid hs0
  have HE0 := hid hE0
  clear hs0 hE0 HO
  go_loopw [4] (fun i wr => ∃ k : Nat, k ≤ T ∧ i = .int .i64 (k + 1) ∧ Ws wr w.heap.size (.slice (some ⟨g, 0, none⟩) N N) (first1 T c B N k) ∧ g < wr.heap.size ∧ Ext (w.alloc (.cells #[.int .i64 T, .int .i64 c, .int .i64 B] 30)) wr) (fun i _ => T + 1 - (intOf i).toNat)
  case atStart => exact ⟨0, by omega, rfl, HS0.out, by simp; omega, HE0.out⟩
  case round =>
   obtain ⟨k, hk, rfl, hv, hgr, r5, rfl⟩ := hrel
   simp only [size_ext, World.size_alloc] at hgr
   have HV := hid hv
   clear hv HS0 HE0 HX HX0 hc0 hf0
   by_cases hkT : k < T
   ·have hd : decide ((k : Int) + 1 ≤ (T : Int)) = true := by simp; omega
    have HA4 : Hid (atN T c B 4 (k : Int) 0 = ((P4 + k * 104 : Nat) : Int)) := hid (by
     simp only [atN, manyN, szN]; rw [if_pos ⟨HR.out, by omega, by omega⟩, HP4.out]; simp)
    obtain ⟨q, hq⟩ : ∃ q, q = P4 + k * 104 := ⟨_, rfl⟩
    have HQ := hid hq
    rw [← hq] at HA4
    have hqN : q < N := by have := HL7.out; have := HN.out; have := HP4.out; omega
    clear hq
    obtain ⟨x, hx, hc⟩ := Ws.cellVal HV.out (q := q) (by rw [first1_len]; exact hqN)
    have hf := Ws.free HV.out (q * 3)
    have HX := hid hx
    have HY := hid (first1_zero _ _ _ _ _ _ _ hx)
    clear hx
    have HF1 := hid (show first1 T c B N (k + 1) = (first1 T c B N k).set q (2, 0, 0) by
     simp only [first1]; congr 1; have := HP4.out; have := HQ.out; omega)
    go_wp2_with fail
    go_call (slot_any T c B ((k : Int) + 1) _ ((HS.out.alloc _).ext _)) as e w' ⟨rfl, r6, rfl⟩
    rw [show wrap64 ((k : Int) + 1 - 1) = (k : Int) from by rw [IntWalk.wrap64_in _ ⟨by omega, by omega⟩]; omega, HA4.out]
    go_wp2_with fail
    go_roundw
    case rel => exact ⟨k + 1, by omega, by go_num, by rw [HF1.out]; exact Ws.setVal (HV.out.ext r6) HX.out HY.out 2 rfl, by simp; omega, Ext.setCell (by exact exP) (by simpa using hg3) _⟩
    case measure => simp [intOf]; omega
   ·have hd : decide ((k : Int) + 1 ≤ (T : Int)) = false := by simp; omega
    go_wp2_with fail
    obtain rfl : k = T := by omega
    clear hd
    go_loopw [31] (fun i wr => ∃ y : Nat, y ≤ B ∧ i = .int .i64 y ∧ Ws wr w.heap.size (.slice (some ⟨g, 0, none⟩) N N) (first2 k c B N k y) ∧ g < wr.heap.size ∧ Ext (w.alloc (.cells #[.int .i64 k, .int .i64 c, .int .i64 B] 30)) wr) (fun i _ => B - (intOf i).toNat)
    case atStart => exact ⟨0, by omega, rfl, HV.out, by simp; omega, by exact exP⟩
    case round =>
     obtain ⟨y, hy, rfl, hv, hgr2, r7, rfl⟩ := hrel
     simp only [size_ext, World.size_alloc] at hgr2
     clear hgr HV
     have HV := hid hv
     clear hv
     by_cases hyB : y < B
     ·have hd : decide (y < B) = true := decide_eq_true hyB
      have HA6 : Hid (atN k c B 6 (y : Int) 0 = ((P6 + y * 32 : Nat) : Int)) := hid (by
       simp only [atN, manyN, szN]; rw [if_pos ⟨HR.out, by omega, by omega⟩, HP6.out]; simp)
      obtain ⟨q, hq⟩ : ∃ q, q = P6 + y * 32 := ⟨_, rfl⟩
      have HQ := hid hq
      rw [← hq] at HA6
      have hqN : q < N := by have := HL7.out; have := HN.out; have := HP6.out; omega
      clear hq
      obtain ⟨x, hx, hc⟩ := Ws.cellVal HV.out (q := q) (by rw [first2_len]; exact hqN)
      have hf := Ws.free HV.out (q * 3)
      have HX := hid hx
      have HY := hid (first2_zero _ _ _ _ _ _ _ _ hx)
      clear hx
      have HF2 := hid (show first2 k c B N k (y + 1) = (first2 k c B N k y).set q (2, 0, 0) by
       simp only [first2]; congr 1; have := HP6.out; have := HQ.out; omega)
      go_wp2_with fail
      go_call (block_any k c B (y : Int) _ ((HS.out.alloc _).ext _)) as e w' ⟨rfl, r8, rfl⟩
      rw [HA6.out]
      go_wp2_with fail
      go_roundw
      case rel => exact ⟨y + 1, by omega, by go_num, by rw [HF2.out]; exact Ws.setVal (HV.out.ext r8) HX.out HY.out 2 rfl, by simp; omega, Ext.setCell (by exact exP) (by simpa using hg3) _⟩
      case measure => simp [intOf]; omega
     ·have hd : decide (y < B) = false := decide_eq_false hyB
      obtain rfl : y = B := by omega
      go_wp2_with fail
      go_ret
      exact ⟨_, rfl, by exact exP, by rw [HF.out]; exact HV.out⟩
open Go.RowKit
theorem wraps_u32w : ∀ n : Int, 0 ≤ n → n < 2 ^ 32 → IntKind.u32.wrap n = n := fun n h0 h1 => by rw [IntKind.wrap_u32]; omega
theorem or_ref {who seq : Int} (h1 : 0 ≤ who) (h2 : who ≤ 255) (h3 : 0 ≤ seq) (h4 : seq ≤ 16777215) : bits BinOp.or IntKind.u32 (who * 16777216) seq = who * 16777216 + seq :=
 bits_join .u32 32 (by decide) wraps_u32w 24 _ _ (by omega) (by omega) (by omega) h3 (by omega) (by omega)
theorem and_seq {ref : Int} (h0 : 0 ≤ ref) (h1 : ref ≤ 4294967295) : bits BinOp.and IntKind.u32 ref 16777215 = ref % 16777216 :=
 bits_mask .u32 32 (by decide) wraps_u32w 24 (by decide) ref h0 (by omega)
def refN (who seq : Int) : Int × Int := if 1 ≤ who ∧ who ≤ 72 ∧ 1 ≤ seq ∧ seq ≤ 16777215 then (who * 16777216 + seq, 0) else (0, 3)
set_option maxHeartbeats 1000000 in
theorem ref_any (who seq : Int) (w : World) :
 Calls Tryz.prog 51 #[.int .i64 who, .int .i64 seq] w fun e w' => e = .returned (.tuple #[.int .u32 (refN who seq).1, .int .i64 (refN who seq).2]) ∧ ∃ r, w' = ext w r := by
 by_cases h1 : who < 1
 ·have HR := hid (show refN who seq = (0, 3) by unfold refN; rw [if_neg (by omega)])
  go_enter Tryz.func51, Tryz.ntmps51
  go_wp2_with fail
  go_ret2
  exact ⟨by rw [HR.out]; rfl, by exact exP⟩
 by_cases h2 : 72 < who
 ·have HR := hid (show refN who seq = (0, 3) by unfold refN; rw [if_neg (by omega)])
  go_enter Tryz.func51, Tryz.ntmps51
  go_wp2_with fail
  go_ret2
  exact ⟨by rw [HR.out]; rfl, by exact exP⟩
 by_cases h3 : seq < 1
 ·have HR := hid (show refN who seq = (0, 3) by unfold refN; rw [if_neg (by omega)])
  go_enter Tryz.func51, Tryz.ntmps51
  go_wp2_with fail
  go_ret2
  exact ⟨by rw [HR.out]; rfl, by exact exP⟩
 by_cases h4 : 16777215 < seq
 ·have HR := hid (show refN who seq = (0, 3) by unfold refN; rw [if_neg (by omega)])
  go_enter Tryz.func51, Tryz.ntmps51
  go_wp2_with fail
  go_ret2
  exact ⟨by rw [HR.out]; rfl, by exact exP⟩
 have HR := hid (show refN who seq = (who * 16777216 + seq, 0) by unfold refN; rw [if_pos (by omega)])
 go_enter Tryz.func51, Tryz.ntmps51
 go_wp2_with fail
 go_ret2
 exact ⟨by rw [HR.out, ← or_ref (by omega) (by omega) (by omega) (by omega)]; rfl, by exact exP⟩
def whoN (ref : Int) : Int × Int := if 1 ≤ ref / 16777216 ∧ ref / 16777216 ≤ 72 ∧ 1 ≤ ref % 16777216 then (ref / 16777216, ref % 16777216) else (0, 0)
set_option maxHeartbeats 1000000 in
theorem who_any (ref : Int) (h0 : 0 ≤ ref) (h1 : ref ≤ 4294967295) (w : World) :
 Calls Tryz.prog 18 #[.int .u32 ref] w fun e w' => e = .returned (.tuple #[.int .i64 (whoN ref).1, .int .i64 (whoN ref).2]) ∧ ∃ r, w' = ext w r := by
 have hm : wrap64 (bits BinOp.and IntKind.u32 ref 16777215) = ref % 16777216 := by rw [and_seq h0 h1]; exact IntWalk.wrap64_in _ ⟨by omega, by omega⟩
 have HM := hid hm
 clear hm
 by_cases hv : 1 ≤ ref / 16777216 ∧ ref / 16777216 ≤ 72 ∧ 1 ≤ ref % 16777216
 ·have HR := hid (show refN (ref / 16777216) (ref % 16777216) = (ref / 16777216 * 16777216 + ref % 16777216, 0) by unfold refN; rw [if_pos (by omega)])
  have HW := hid (show whoN ref = (ref / 16777216, ref % 16777216) by unfold whoN; rw [if_pos hv])
  clear hv
  go_enter Tryz.func18, Tryz.ntmps18
  go_wp2_with fail
  rw [HM.out]
  go_call (ref_any _ _ _) as e w' ⟨rfl, r, rfl⟩
  rw [HR.out]
  go_wp2_with fail
  go_ret2
  exact ⟨by rw [HW.out]; rfl, by exact exP⟩
 ·have HR := hid (show refN (ref / 16777216) (ref % 16777216) = (0, 3) by unfold refN; rw [if_neg (by omega)])
  have HW := hid (show whoN ref = (0, 0) by unfold whoN; rw [if_neg hv])
  clear hv
  go_enter Tryz.func18, Tryz.ntmps18
  go_wp2_with fail
  rw [HM.out]
  go_call (ref_any _ _ _) as e w' ⟨rfl, r, rfl⟩
  rw [HR.out]
  go_wp2_with fail
  go_ret2
  exact ⟨by rw [HW.out]; rfl, by exact exP⟩
def kindN (ref : Int) : Int := if ref = 0 then 0 else if 0 < (whoN ref).1 then 1 else 2
set_option maxHeartbeats 1000000 in
theorem kind_any (val ver ref : Int) (h0 : 0 ≤ ref) (h1 : ref ≤ 4294967295) (w : World) :
 Calls Tryz.prog 153 #[.agg #[.int .i64 val, .int .u32 ver, .int .u32 ref]] w fun e w' => e = .returned (.int .i64 (kindN ref)) ∧ ∃ r, w' = ext w r := by
 have HB := hid (And.intro h0 h1)
 by_cases hz : ref = 0
 ·have HK := hid (show kindN ref = 0 by simp [kindN, hz])
  have hz' : (ref == 0) = true := by simpa using hz
  clear hz
  go_enter Tryz.func153, Tryz.ntmps153
  go_wp2_with fail
  go_call (who_any ref HB.out.1 HB.out.2 _) as e w' ⟨rfl, r, rfl⟩
  go_wp2_with fail
  go_ret
  exact ⟨ret_int HK.out.symm, by exact exP⟩
 ·have hz' : (ref == 0) = false := by simpa using hz
  by_cases hw : 0 < (whoN ref).1
  ·have HK := hid (show kindN ref = 1 by simp [kindN, hz, hw])
   clear hz
   go_enter Tryz.func153, Tryz.ntmps153
   go_wp2_with fail
   go_call (who_any ref HB.out.1 HB.out.2 _) as e w' ⟨rfl, r, rfl⟩
   go_wp2_with fail
   go_ret
   exact ⟨ret_int HK.out.symm, by exact exP⟩
  ·have HK := hid (show kindN ref = 2 by simp [kindN, hz, hw])
   clear hz
   go_enter Tryz.func153, Tryz.ntmps153
   go_wp2_with fail
   go_call (who_any ref HB.out.1 HB.out.2 _) as e w' ⟨rfl, r, rfl⟩
   go_wp2_with fail
   go_ret
   exact ⟨ret_int HK.out.symm, by exact exP⟩
theorem kindN_zero (ref : Int) : (kindN ref == 0) = (ref == 0) := by
 unfold kindN
 by_cases hz : ref = 0
 ·simp [hz]
 ·rw [if_neg hz]
  split <;> simp [hz]
set_option maxHeartbeats 1000000 in
theorem plain_any (val ver ref : Int) (h0 : 0 ≤ ref) (h1 : ref ≤ 4294967295) (w : World) :
 Calls Tryz.prog 136 #[.agg #[.int .i64 val, .int .u32 ver, .int .u32 ref]] w fun e w' => e = .returned (.bool (ref == 0)) ∧ ∃ r, w' = ext w r := by
 have HB := hid (And.intro h0 h1)
 clear h0 h1
 go_enter Tryz.func136, Tryz.ntmps136
 go_wp2_with fail
 go_call (kind_any val ver ref HB.out.1 HB.out.2 _) as e w' ⟨rfl, r, rfl⟩
 go_wp2_with fail
 go_ret
 exact ⟨ret_bool (kindN_zero ref), by exact exP⟩
open Go.RowKit
structure En where
 loc : Int
 val : Int
 ver : Int
 ref : Int
 new : Int
 wr : Bool
def enE (e : En) : List Value := [.int .i64 e.loc, .int .i64 e.val, .int .u32 e.ver, .int .u32 e.ref, .int .i64 e.new, .bool e.wr]
theorem enE_len (e : En) : (enE e).length = 6 := rfl
theorem enE_one (e : En) : ∀ u ∈ enE e, u.oneCell' = true := by
 intro u hu
 simp only [enE, List.mem_cons, List.not_mem_nil, or_false] at hu
 rcases hu with rfl | rfl | rfl | rfl | rfl | rfl <;> rfl
structure EnOk (e : En) : Prop where
 loc0 : -9223372036854775808 ≤ e.loc
 loc1 : e.loc ≤ 9223372036854775807
 val0 : -9223372036854775808 ≤ e.val
 val1 : e.val ≤ 9223372036854775807
 ver0 : 0 ≤ e.ver
 ver1 : e.ver ≤ 4294967295
 ref0 : 0 ≤ e.ref
 ref1 : e.ref ≤ 4294967295
 new0 : -9223372036854775808 ≤ e.new
 new1 : e.new ≤ 9223372036854775807
abbrev Es (w : World) (v : Value) (l : List En) : Prop := Sl w 6 enE v l
def wrongN (e : En) : Int :=
 if e.loc < 0 ∨ 4096 ≤ e.loc then 3 else if e.ref ≠ 0 then 13 else if e.wr = true ∧ e.ver = 4294967295 then 9 else if e.wr = false ∧ e.new ≠ e.val then 4 else 0
set_option maxHeartbeats 1000000 in
theorem wrong_any (e : En) (h : EnOk e) (w : World) :
 Calls Tryz.prog 120 #[.agg #[.int .i64 e.loc, .int .i64 e.val, .int .u32 e.ver, .int .u32 e.ref, .int .i64 e.new, .bool e.wr]] w fun x w' => x = .returned (.int .i64 (wrongN e)) ∧ ∃ r, w' = ext w r := by
 obtain ⟨loc, val, ver, ref, new, wr⟩ := e
 obtain ⟨h1, h2, h3, h4, h5, h6, h7, h8, h9, h10⟩ := h
 simp only [] at h1 h2 h3 h4 h5 h6 h7 h8 h9 h10 ⊢
 by_cases c1 : loc < 0
 ·have HR := hid (show wrongN ⟨loc, val, ver, ref, new, wr⟩ = 3 by simp [wrongN, c1])
  go_enter Tryz.func120, Tryz.ntmps120
  go_wp2_with fail
  go_ret
  exact ⟨ret_int HR.out.symm, by exact exP⟩
 by_cases c2 : 4096 ≤ loc
 ·have HR := hid (show wrongN ⟨loc, val, ver, ref, new, wr⟩ = 3 by simp [wrongN, c2])
  go_enter Tryz.func120, Tryz.ntmps120
  go_wp2_with fail
  go_ret
  exact ⟨ret_int HR.out.symm, by exact exP⟩
 have c0 : ¬ (loc < 0 ∨ 4096 ≤ loc) := by omega
 have H78 := hid (And.intro h7 h8)
 by_cases c3 : ref = 0
 ·subst c3
  cases wr
  ·by_cases c4 : new = val
   ·have HR := hid (show wrongN ⟨loc, val, ver, 0, new, false⟩ = 0 by simp [wrongN, c0, c4])
    have c4' : (new != val) = false := by simpa using c4
    clear c4 c0
    go_enter Tryz.func120, Tryz.ntmps120
    go_wp2_with fail
    go_call (plain_any val ver 0 H78.out.1 H78.out.2 _) as e w' ⟨rfl, r, rfl⟩
    go_wp2_with fail
    go_ret
    exact ⟨ret_int HR.out.symm, by exact exP⟩
   ·have HR := hid (show wrongN ⟨loc, val, ver, 0, new, false⟩ = 4 by simp [wrongN, c0, c4])
    have c4' : (new != val) = true := by simpa using c4
    clear c4 c0
    go_enter Tryz.func120, Tryz.ntmps120
    go_wp2_with fail
    go_call (plain_any val ver 0 H78.out.1 H78.out.2 _) as e w' ⟨rfl, r, rfl⟩
    go_wp2_with fail
    go_ret
    exact ⟨ret_int HR.out.symm, by exact exP⟩
  ·by_cases c4 : ver = 4294967295
   ·have HR := hid (show wrongN ⟨loc, val, ver, 0, new, true⟩ = 9 by simp [wrongN, c0, c4])
    have c4' : (ver == 4294967295) = true := by simpa using c4
    clear c4 c0
    go_enter Tryz.func120, Tryz.ntmps120
    go_wp2_with fail
    go_call (plain_any val ver 0 H78.out.1 H78.out.2 _) as e w' ⟨rfl, r, rfl⟩
    go_wp2_with fail
    go_ret
    exact ⟨ret_int HR.out.symm, by exact exP⟩
   ·have HR := hid (show wrongN ⟨loc, val, ver, 0, new, true⟩ = 0 by simp [wrongN, c0, c4])
    have c4' : (ver == 4294967295) = false := by simpa using c4
    clear c4 c0
    go_enter Tryz.func120, Tryz.ntmps120
    go_wp2_with fail
    go_call (plain_any val ver 0 H78.out.1 H78.out.2 _) as e w' ⟨rfl, r, rfl⟩
    go_wp2_with fail
    go_ret
    exact ⟨ret_int HR.out.symm, by exact exP⟩
 ·have HR := hid (show wrongN ⟨loc, val, ver, ref, new, wr⟩ = 13 by simp [wrongN, c0, c3])
  have c3' : (ref == 0) = false := by simpa using c3
  clear c3 c0
  go_enter Tryz.func120, Tryz.ntmps120
  go_wp2_with fail
  go_call (plain_any val ver ref H78.out.1 H78.out.2 _) as e w' ⟨rfl, r, rfl⟩
  go_wp2_with fail
  go_ret
  exact ⟨ret_int HR.out.symm, by exact exP⟩
end Go.Proofs.YtiacdohaiidehaaGreatDoor
