/- Walks of package word's inner functions: Ref, Who, kind, Plain. -/
import Derived.Test.YtfijnpfhffhffaaDoorRows
import Derived.Test.YtfijnpfhffhffaaDoorBase
namespace Go.Proofs.YtfijnpfhffhffaaDoor
set_option linter.unusedSimpArgs false
set_option linter.unusedVariables false
open Go.RowKit

theorem wraps_u32w : ∀ n : Int, 0 ≤ n → n < 2 ^ 32 → IntKind.u32.wrap n = n := fun n h0 h1 => by rw [IntKind.wrap_u32]; omega
theorem or_ref {who seq : Int} (h1 : 0 ≤ who) (h2 : who ≤ 255) (h3 : 0 ≤ seq) (h4 : seq ≤ 16777215) : bits BinOp.or IntKind.u32 (who * 16777216) seq = who * 16777216 + seq :=
  bits_join .u32 32 (by decide) wraps_u32w 24 _ _ (by omega) (by omega) (by omega) h3 (by omega) (by omega)
theorem and_seq {ref : Int} (h0 : 0 ≤ ref) (h1 : ref ≤ 4294967295) : bits BinOp.and IntKind.u32 ref 16777215 = ref % 16777216 :=
  bits_mask .u32 32 (by decide) wraps_u32w 24 (by decide) ref h0 (by omega)

/-- Plain: the reference and the error. -/
def refN (who seq : Int) : Int × Int := if 1 ≤ who ∧ who ≤ 72 ∧ 1 ≤ seq ∧ seq ≤ 16777215 then (who * 16777216 + seq, 0) else (0, 3)

set_option maxHeartbeats 1000000 in
theorem ref_any (who seq : Int) (w : World) :
    Calls Tryd.prog 58 #[.int .i64 who, .int .i64 seq] w fun e w' => e = .returned (.tuple #[.int .u32 (refN who seq).1, .int .i64 (refN who seq).2]) ∧ ∃ r, w' = ext w r := by
  by_cases h1 : who < 1
  · have HR := hid (show refN who seq = (0, 3) by unfold refN; rw [if_neg (by omega)])
    go_enter Tryd.func58, Tryd.ntmps58
    go_wp2_with fail
    go_ret2
    exact ⟨by rw [HR.out]; rfl, by (show Ext _ _; repeat (first | with_reducible (refine Hid.out ?_; assumption) | with_reducible exact Ext.refl _ | with_reducible refine Ext.ext ?_ _ | with_reducible refine Ext.alloc ?_ _ | refine Ext.drew ?_ | refine Ext.drewN ?_ _ | exact Ext.refl _))⟩
  by_cases h2 : 72 < who
  · have HR := hid (show refN who seq = (0, 3) by unfold refN; rw [if_neg (by omega)])
    go_enter Tryd.func58, Tryd.ntmps58
    go_wp2_with fail
    go_ret2
    exact ⟨by rw [HR.out]; rfl, by (show Ext _ _; repeat (first | with_reducible (refine Hid.out ?_; assumption) | with_reducible exact Ext.refl _ | with_reducible refine Ext.ext ?_ _ | with_reducible refine Ext.alloc ?_ _ | refine Ext.drew ?_ | refine Ext.drewN ?_ _ | exact Ext.refl _))⟩
  by_cases h3 : seq < 1
  · have HR := hid (show refN who seq = (0, 3) by unfold refN; rw [if_neg (by omega)])
    go_enter Tryd.func58, Tryd.ntmps58
    go_wp2_with fail
    go_ret2
    exact ⟨by rw [HR.out]; rfl, by (show Ext _ _; repeat (first | with_reducible (refine Hid.out ?_; assumption) | with_reducible exact Ext.refl _ | with_reducible refine Ext.ext ?_ _ | with_reducible refine Ext.alloc ?_ _ | refine Ext.drew ?_ | refine Ext.drewN ?_ _ | exact Ext.refl _))⟩
  by_cases h4 : 16777215 < seq
  · have HR := hid (show refN who seq = (0, 3) by unfold refN; rw [if_neg (by omega)])
    go_enter Tryd.func58, Tryd.ntmps58
    go_wp2_with fail
    go_ret2
    exact ⟨by rw [HR.out]; rfl, by (show Ext _ _; repeat (first | with_reducible (refine Hid.out ?_; assumption) | with_reducible exact Ext.refl _ | with_reducible refine Ext.ext ?_ _ | with_reducible refine Ext.alloc ?_ _ | refine Ext.drew ?_ | refine Ext.drewN ?_ _ | exact Ext.refl _))⟩
  have HR := hid (show refN who seq = (who * 16777216 + seq, 0) by unfold refN; rw [if_pos (by omega)])
  go_enter Tryd.func58, Tryd.ntmps58
  go_wp2_with fail
  go_ret2
  exact ⟨by rw [HR.out, ← or_ref (by omega) (by omega) (by omega) (by omega)]; rfl, by (show Ext _ _; repeat (first | with_reducible (refine Hid.out ?_; assumption) | with_reducible exact Ext.refl _ | with_reducible refine Ext.ext ?_ _ | with_reducible refine Ext.alloc ?_ _ | refine Ext.drew ?_ | refine Ext.drewN ?_ _ | exact Ext.refl _))⟩

/-- Plain: the owner and the number of a reference. -/
def whoN (ref : Int) : Int × Int := if 1 ≤ ref / 16777216 ∧ ref / 16777216 ≤ 72 ∧ 1 ≤ ref % 16777216 then (ref / 16777216, ref % 16777216) else (0, 0)

set_option maxHeartbeats 1000000 in
theorem who_any (ref : Int) (h0 : 0 ≤ ref) (h1 : ref ≤ 4294967295) (w : World) :
    Calls Tryd.prog 44 #[.int .u32 ref] w fun e w' => e = .returned (.tuple #[.int .i64 (whoN ref).1, .int .i64 (whoN ref).2]) ∧ ∃ r, w' = ext w r := by
  have hm : wrap64 (bits BinOp.and IntKind.u32 ref 16777215) = ref % 16777216 := by rw [and_seq h0 h1]; exact IntWalk.wrap64_in _ ⟨by omega, by omega⟩
  have HM := hid hm
  clear hm
  by_cases hv : 1 ≤ ref / 16777216 ∧ ref / 16777216 ≤ 72 ∧ 1 ≤ ref % 16777216
  · have HR := hid (show refN (ref / 16777216) (ref % 16777216) = (ref / 16777216 * 16777216 + ref % 16777216, 0) by unfold refN; rw [if_pos (by omega)])
    have HW := hid (show whoN ref = (ref / 16777216, ref % 16777216) by unfold whoN; rw [if_pos hv])
    clear hv
    go_enter Tryd.func44, Tryd.ntmps44
    go_wp2_with fail
    rw [HM.out]
    go_call (ref_any _ _ _) as e w' ⟨rfl, r, rfl⟩
    rw [HR.out]
    go_wp2_with fail
    go_ret2
    exact ⟨by rw [HW.out]; rfl, by (show Ext _ _; repeat (first | with_reducible (refine Hid.out ?_; assumption) | with_reducible exact Ext.refl _ | with_reducible refine Ext.ext ?_ _ | with_reducible refine Ext.alloc ?_ _ | refine Ext.drew ?_ | refine Ext.drewN ?_ _ | exact Ext.refl _))⟩
  · have HR := hid (show refN (ref / 16777216) (ref % 16777216) = (0, 3) by unfold refN; rw [if_neg (by omega)])
    have HW := hid (show whoN ref = (0, 0) by unfold whoN; rw [if_neg hv])
    clear hv
    go_enter Tryd.func44, Tryd.ntmps44
    go_wp2_with fail
    rw [HM.out]
    go_call (ref_any _ _ _) as e w' ⟨rfl, r, rfl⟩
    rw [HR.out]
    go_wp2_with fail
    go_ret2
    exact ⟨by rw [HW.out]; rfl, by (show Ext _ _; repeat (first | with_reducible (refine Hid.out ?_; assumption) | with_reducible exact Ext.refl _ | with_reducible refine Ext.ext ?_ _ | with_reducible refine Ext.alloc ?_ _ | refine Ext.drew ?_ | refine Ext.drewN ?_ _ | exact Ext.refl _))⟩

/-- Plain: the kind of a word with this reference. -/
def kindN (ref : Int) : Int := if ref = 0 then 0 else if 0 < (whoN ref).1 then 1 else 2

set_option maxHeartbeats 1000000 in
theorem kind_any (val ver ref : Int) (h0 : 0 ≤ ref) (h1 : ref ≤ 4294967295) (w : World) :
    Calls Tryd.prog 77 #[.agg #[.int .i64 val, .int .u32 ver, .int .u32 ref]] w fun e w' => e = .returned (.int .i64 (kindN ref)) ∧ ∃ r, w' = ext w r := by
  have HB := hid (And.intro h0 h1)
  by_cases hz : ref = 0
  · have HK := hid (show kindN ref = 0 by simp [kindN, hz])
    have hz' : (ref == 0) = true := by simpa using hz
    clear hz
    go_enter Tryd.func77, Tryd.ntmps77
    go_wp2_with fail
    go_call (who_any ref HB.out.1 HB.out.2 _) as e w' ⟨rfl, r, rfl⟩
    go_wp2_with fail
    go_ret
    exact ⟨ret_int HK.out.symm, by (show Ext _ _; repeat (first | with_reducible (refine Hid.out ?_; assumption) | with_reducible exact Ext.refl _ | with_reducible refine Ext.ext ?_ _ | with_reducible refine Ext.alloc ?_ _ | refine Ext.drew ?_ | refine Ext.drewN ?_ _ | exact Ext.refl _))⟩
  · have hz' : (ref == 0) = false := by simpa using hz
    by_cases hw : 0 < (whoN ref).1
    · have HK := hid (show kindN ref = 1 by simp [kindN, hz, hw])
      clear hz
      go_enter Tryd.func77, Tryd.ntmps77
      go_wp2_with fail
      go_call (who_any ref HB.out.1 HB.out.2 _) as e w' ⟨rfl, r, rfl⟩
      go_wp2_with fail
      go_ret
      exact ⟨ret_int HK.out.symm, by (show Ext _ _; repeat (first | with_reducible (refine Hid.out ?_; assumption) | with_reducible exact Ext.refl _ | with_reducible refine Ext.ext ?_ _ | with_reducible refine Ext.alloc ?_ _ | refine Ext.drew ?_ | refine Ext.drewN ?_ _ | exact Ext.refl _))⟩
    · have HK := hid (show kindN ref = 2 by simp [kindN, hz, hw])
      clear hz
      go_enter Tryd.func77, Tryd.ntmps77
      go_wp2_with fail
      go_call (who_any ref HB.out.1 HB.out.2 _) as e w' ⟨rfl, r, rfl⟩
      go_wp2_with fail
      go_ret
      exact ⟨ret_int HK.out.symm, by (show Ext _ _; repeat (first | with_reducible (refine Hid.out ?_; assumption) | with_reducible exact Ext.refl _ | with_reducible refine Ext.ext ?_ _ | with_reducible refine Ext.alloc ?_ _ | refine Ext.drew ?_ | refine Ext.drewN ?_ _ | exact Ext.refl _))⟩

theorem kindN_zero (ref : Int) : (kindN ref == 0) = (ref == 0) := by
  unfold kindN
  by_cases hz : ref = 0
  · simp [hz]
  · rw [if_neg hz]
    split <;> simp [hz]

set_option maxHeartbeats 1000000 in
theorem plain_any (val ver ref : Int) (h0 : 0 ≤ ref) (h1 : ref ≤ 4294967295) (w : World) :
    Calls Tryd.prog 75 #[.agg #[.int .i64 val, .int .u32 ver, .int .u32 ref]] w fun e w' => e = .returned (.bool (ref == 0)) ∧ ∃ r, w' = ext w r := by
  have HB := hid (And.intro h0 h1)
  clear h0 h1
  go_enter Tryd.func75, Tryd.ntmps75
  go_wp2_with fail
  go_call (kind_any val ver ref HB.out.1 HB.out.2 _) as e w' ⟨rfl, r, rfl⟩
  go_wp2_with fail
  go_ret
  exact ⟨ret_bool (kindN_zero ref), by (show Ext _ _; repeat (first | with_reducible (refine Hid.out ?_; assumption) | with_reducible exact Ext.refl _ | with_reducible refine Ext.ext ?_ _ | with_reducible refine Ext.alloc ?_ _ | refine Ext.drew ?_ | refine Ext.drewN ?_ _ | exact Ext.refl _))⟩

end Go.Proofs.YtfijnpfhffhffaaDoor
