/- Walks of package entry's inner functions: wrong, and the search by location. -/
import Derived.Test.YtfijnpfhffhffaaDoorOwn
import Derived.Test.YtfijnpfhffhffaaDoorWd
import Derived.Test.YtfijnpfhffhffaaDoorWordA
namespace Go.Proofs.YtfijnpfhffhffaaDoor
set_option linter.unusedSimpArgs false
set_option linter.unusedVariables false
open Go.RowKit

/-- Plain: an entry: location, value, version, reference, new value, written. -/
structure En where
  loc : Int
  val : Int
  ver : Int
  ref : Int
  new : Int
  wr : Bool
def enE (e : En) : List Value := [.int .i64 e.loc, .int .i64 e.val, .int .u32 e.ver, .int .u32 e.ref, .int .i64 e.new, .bool e.wr]
theorem enE_len (e : En) : (enE e).length = 6 := rfl
theorem enE_one (e : En) : ∀ u ∈ enE e, u.oneCell' = true := by
  intro u hu
  simp only [enE, List.mem_cons, List.not_mem_nil, or_false] at hu
  rcases hu with rfl | rfl | rfl | rfl | rfl | rfl <;> rfl
/-- The numbers fit their kinds. -/
structure EnOk (e : En) : Prop where
  loc0 : -9223372036854775808 ≤ e.loc
  loc1 : e.loc ≤ 9223372036854775807
  val0 : -9223372036854775808 ≤ e.val
  val1 : e.val ≤ 9223372036854775807
  ver0 : 0 ≤ e.ver
  ver1 : e.ver ≤ 4294967295
  ref0 : 0 ≤ e.ref
  ref1 : e.ref ≤ 4294967295
  new0 : -9223372036854775808 ≤ e.new
  new1 : e.new ≤ 9223372036854775807
/-- The slice v reads as these entries. -/
abbrev Es (w : World) (v : Value) (l : List En) : Prop := Sl w 6 enE v l

/-- Plain: the error of a single entry. -/
def wrongN (e : En) : Int :=
  if e.loc < 0 ∨ 4096 ≤ e.loc then 3 else if e.ref ≠ 0 then 13 else if e.wr = true ∧ e.ver = 4294967295 then 9 else if e.wr = false ∧ e.new ≠ e.val then 4 else 0

set_option maxHeartbeats 1000000 in
theorem wrong_any (e : En) (h : EnOk e) (w : World) :
    Calls Tryd.prog 69 #[.agg #[.int .i64 e.loc, .int .i64 e.val, .int .u32 e.ver, .int .u32 e.ref, .int .i64 e.new, .bool e.wr]] w fun x w' => x = .returned (.int .i64 (wrongN e)) ∧ ∃ r, w' = ext w r := by
  obtain ⟨loc, val, ver, ref, new, wr⟩ := e
  obtain ⟨h1, h2, h3, h4, h5, h6, h7, h8, h9, h10⟩ := h
  simp only [] at h1 h2 h3 h4 h5 h6 h7 h8 h9 h10 ⊢
  by_cases c1 : loc < 0
  · have HR := hid (show wrongN ⟨loc, val, ver, ref, new, wr⟩ = 3 by simp [wrongN, c1])
    go_enter Tryd.func69, Tryd.ntmps69
    go_wp2_with fail
    go_ret
    exact ⟨ret_int HR.out.symm, by (show Ext _ _; repeat (first | with_reducible (refine Hid.out ?_; assumption) | with_reducible exact Ext.refl _ | with_reducible refine Ext.ext ?_ _ | with_reducible refine Ext.alloc ?_ _ | refine Ext.drew ?_ | refine Ext.drewN ?_ _ | exact Ext.refl _))⟩
  by_cases c2 : 4096 ≤ loc
  · have HR := hid (show wrongN ⟨loc, val, ver, ref, new, wr⟩ = 3 by simp [wrongN, c2])
    go_enter Tryd.func69, Tryd.ntmps69
    go_wp2_with fail
    go_ret
    exact ⟨ret_int HR.out.symm, by (show Ext _ _; repeat (first | with_reducible (refine Hid.out ?_; assumption) | with_reducible exact Ext.refl _ | with_reducible refine Ext.ext ?_ _ | with_reducible refine Ext.alloc ?_ _ | refine Ext.drew ?_ | refine Ext.drewN ?_ _ | exact Ext.refl _))⟩
  have c0 : ¬ (loc < 0 ∨ 4096 ≤ loc) := by omega
  have H78 := hid (And.intro h7 h8)
  by_cases c3 : ref = 0
  · subst c3
    cases wr
    · by_cases c4 : new = val
      · have HR := hid (show wrongN ⟨loc, val, ver, 0, new, false⟩ = 0 by simp [wrongN, c0, c4])
        have c4' : (new != val) = false := by simpa using c4
        clear c4 c0
        go_enter Tryd.func69, Tryd.ntmps69
        go_wp2_with fail
        go_call (plain_any val ver 0 H78.out.1 H78.out.2 _) as e w' ⟨rfl, r, rfl⟩
        go_wp2_with fail
        go_ret
        exact ⟨ret_int HR.out.symm, by (show Ext _ _; repeat (first | with_reducible (refine Hid.out ?_; assumption) | with_reducible exact Ext.refl _ | with_reducible refine Ext.ext ?_ _ | with_reducible refine Ext.alloc ?_ _ | refine Ext.drew ?_ | refine Ext.drewN ?_ _ | exact Ext.refl _))⟩
      · have HR := hid (show wrongN ⟨loc, val, ver, 0, new, false⟩ = 4 by simp [wrongN, c0, c4])
        have c4' : (new != val) = true := by simpa using c4
        clear c4 c0
        go_enter Tryd.func69, Tryd.ntmps69
        go_wp2_with fail
        go_call (plain_any val ver 0 H78.out.1 H78.out.2 _) as e w' ⟨rfl, r, rfl⟩
        go_wp2_with fail
        go_ret
        exact ⟨ret_int HR.out.symm, by (show Ext _ _; repeat (first | with_reducible (refine Hid.out ?_; assumption) | with_reducible exact Ext.refl _ | with_reducible refine Ext.ext ?_ _ | with_reducible refine Ext.alloc ?_ _ | refine Ext.drew ?_ | refine Ext.drewN ?_ _ | exact Ext.refl _))⟩
    · by_cases c4 : ver = 4294967295
      · have HR := hid (show wrongN ⟨loc, val, ver, 0, new, true⟩ = 9 by simp [wrongN, c0, c4])
        have c4' : (ver == 4294967295) = true := by simpa using c4
        clear c4 c0
        go_enter Tryd.func69, Tryd.ntmps69
        go_wp2_with fail
        go_call (plain_any val ver 0 H78.out.1 H78.out.2 _) as e w' ⟨rfl, r, rfl⟩
        go_wp2_with fail
        go_ret
        exact ⟨ret_int HR.out.symm, by (show Ext _ _; repeat (first | with_reducible (refine Hid.out ?_; assumption) | with_reducible exact Ext.refl _ | with_reducible refine Ext.ext ?_ _ | with_reducible refine Ext.alloc ?_ _ | refine Ext.drew ?_ | refine Ext.drewN ?_ _ | exact Ext.refl _))⟩
      · have HR := hid (show wrongN ⟨loc, val, ver, 0, new, true⟩ = 0 by simp [wrongN, c0, c4])
        have c4' : (ver == 4294967295) = false := by simpa using c4
        clear c4 c0
        go_enter Tryd.func69, Tryd.ntmps69
        go_wp2_with fail
        go_call (plain_any val ver 0 H78.out.1 H78.out.2 _) as e w' ⟨rfl, r, rfl⟩
        go_wp2_with fail
        go_ret
        exact ⟨ret_int HR.out.symm, by (show Ext _ _; repeat (first | with_reducible (refine Hid.out ?_; assumption) | with_reducible exact Ext.refl _ | with_reducible refine Ext.ext ?_ _ | with_reducible refine Ext.alloc ?_ _ | refine Ext.drew ?_ | refine Ext.drewN ?_ _ | exact Ext.refl _))⟩
  · have HR := hid (show wrongN ⟨loc, val, ver, ref, new, wr⟩ = 13 by simp [wrongN, c0, c3])
    have c3' : (ref == 0) = false := by simpa using c3
    clear c3 c0
    go_enter Tryd.func69, Tryd.ntmps69
    go_wp2_with fail
    go_call (plain_any val ver ref H78.out.1 H78.out.2 _) as e w' ⟨rfl, r, rfl⟩
    go_wp2_with fail
    go_ret
    exact ⟨ret_int HR.out.symm, by (show Ext _ _; repeat (first | with_reducible (refine Hid.out ?_; assumption) | with_reducible exact Ext.refl _ | with_reducible refine Ext.ext ?_ _ | with_reducible refine Ext.alloc ?_ _ | refine Ext.drew ?_ | refine Ext.drewN ?_ _ | exact Ext.refl _))⟩

end Go.Proofs.YtfijnpfhffhffaaDoor
