/- Walks of package word's inner functions: Ref, Who, kind, Plain. Walks of package entry's inner functions: wrong, and the search by location. Walks of package entry's Check and the searches that it uses. The walk of package entry's Check. -/
import Derived.Test.YtdpbcfjfnclpiaaDoorRows
import Derived.Test.YtdpbcfjfnclpiaaDoorPk00
import Derived.Test.YtdpbcfjfnclpiaaDoorPk03
import Derived.Test.YtdpbcfjfnclpiaaDoorPk04
namespace Go.Proofs.YtdpbcfjfnclpiaaDoor
set_option linter.unusedSimpArgs false
set_option linter.unusedVariables false
open Go.RowKit
theorem wraps_u32w : ∀ n : Int, 0 ≤ n → n < 2 ^ 32 → IntKind.u32.wrap n = n := fun n h0 h1 => by rw [IntKind.wrap_u32]; omega
theorem or_ref {who seq : Int} (h1 : 0 ≤ who) (h2 : who ≤ 255) (h3 : 0 ≤ seq) (h4 : seq ≤ 16777215) : bits BinOp.or IntKind.u32 (who * 16777216) seq = who * 16777216 + seq :=
 bits_join .u32 32 (by decide) wraps_u32w 24 _ _ (by omega) (by omega) (by omega) h3 (by omega) (by omega)
theorem and_seq {ref : Int} (h0 : 0 ≤ ref) (h1 : ref ≤ 4294967295) : bits BinOp.and IntKind.u32 ref 16777215 = ref % 16777216 :=
 bits_mask .u32 32 (by decide) wraps_u32w 24 (by decide) ref h0 (by omega)
def refN (who seq : Int) : Int × Int := if 1 ≤ who ∧ who ≤ 72 ∧ 1 ≤ seq ∧ seq ≤ 16777215 then (who * 16777216 + seq, 0) else (0, 3)
set_option maxHeartbeats 1000000 in
theorem ref_any (who seq : Int) (w : World) :
 Calls Tryd.prog 69 #[.int .i64 who, .int .i64 seq] w fun e w' => e = .returned (.tuple #[.int .u32 (refN who seq).1, .int .i64 (refN who seq).2]) ∧ ∃ r, w' = ext w r := by
 by_cases h1 : who < 1
 ·have HR := hid (show refN who seq = (0, 3) by unfold refN; rw [if_neg (by omega)])
  go_enter Tryd.func69, Tryd.ntmps69
  go_wp2_with fail
  go_ret2
  exact ⟨by rw [HR.out]; rfl, by (show Ext _ _; repeat first | (with_reducible first | (refine xH ?_; assumption) | exact xR _ | refine xX ?_ _ | refine xA ?_ _) | refine xD ?_ | refine xN ?_ _ | exact xR _)⟩
 by_cases h2 : 72 < who
 ·have HR := hid (show refN who seq = (0, 3) by unfold refN; rw [if_neg (by omega)])
  go_enter Tryd.func69, Tryd.ntmps69
  go_wp2_with fail
  go_ret2
  exact ⟨by rw [HR.out]; rfl, by (show Ext _ _; repeat first | (with_reducible first | (refine xH ?_; assumption) | exact xR _ | refine xX ?_ _ | refine xA ?_ _) | refine xD ?_ | refine xN ?_ _ | exact xR _)⟩
 by_cases h3 : seq < 1
 ·have HR := hid (show refN who seq = (0, 3) by unfold refN; rw [if_neg (by omega)])
  go_enter Tryd.func69, Tryd.ntmps69
  go_wp2_with fail
  go_ret2
  exact ⟨by rw [HR.out]; rfl, by (show Ext _ _; repeat first | (with_reducible first | (refine xH ?_; assumption) | exact xR _ | refine xX ?_ _ | refine xA ?_ _) | refine xD ?_ | refine xN ?_ _ | exact xR _)⟩
 by_cases h4 : 16777215 < seq
 ·have HR := hid (show refN who seq = (0, 3) by unfold refN; rw [if_neg (by omega)])
  go_enter Tryd.func69, Tryd.ntmps69
  go_wp2_with fail
  go_ret2
  exact ⟨by rw [HR.out]; rfl, by (show Ext _ _; repeat first | (with_reducible first | (refine xH ?_; assumption) | exact xR _ | refine xX ?_ _ | refine xA ?_ _) | refine xD ?_ | refine xN ?_ _ | exact xR _)⟩
 have HR := hid (show refN who seq = (who * 16777216 + seq, 0) by unfold refN; rw [if_pos (by omega)])
 go_enter Tryd.func69, Tryd.ntmps69
 go_wp2_with fail
 go_ret2
 exact ⟨by rw [HR.out, ← or_ref (by omega) (by omega) (by omega) (by omega)]; rfl, by (show Ext _ _; repeat first | (with_reducible first | (refine xH ?_; assumption) | exact xR _ | refine xX ?_ _ | refine xA ?_ _) | refine xD ?_ | refine xN ?_ _ | exact xR _)⟩
def whoN (ref : Int) : Int × Int := if 1 ≤ ref / 16777216 ∧ ref / 16777216 ≤ 72 ∧ 1 ≤ ref % 16777216 then (ref / 16777216, ref % 16777216) else (0, 0)
set_option maxHeartbeats 1000000 in
theorem who_any (ref : Int) (h0 : 0 ≤ ref) (h1 : ref ≤ 4294967295) (w : World) :
 Calls Tryd.prog 62 #[.int .u32 ref] w fun e w' => e = .returned (.tuple #[.int .i64 (whoN ref).1, .int .i64 (whoN ref).2]) ∧ ∃ r, w' = ext w r := by
 have hm : wrap64 (bits BinOp.and IntKind.u32 ref 16777215) = ref % 16777216 := by rw [and_seq h0 h1]; exact IntWalk.wrap64_in _ ⟨by omega, by omega⟩
 have HM := hid hm
 clear hm
 by_cases hv : 1 ≤ ref / 16777216 ∧ ref / 16777216 ≤ 72 ∧ 1 ≤ ref % 16777216
 ·have HR := hid (show refN (ref / 16777216) (ref % 16777216) = (ref / 16777216 * 16777216 + ref % 16777216, 0) by unfold refN; rw [if_pos (by omega)])
  have HW := hid (show whoN ref = (ref / 16777216, ref % 16777216) by unfold whoN; rw [if_pos hv])
  clear hv
  go_enter Tryd.func62, Tryd.ntmps62
  go_wp2_with fail
  rw [HM.out]
  go_call (ref_any _ _ _) as e w' ⟨rfl, r, rfl⟩
  rw [HR.out]
  go_wp2_with fail
  go_ret2
  exact ⟨by rw [HW.out]; rfl, by (show Ext _ _; repeat first | (with_reducible first | (refine xH ?_; assumption) | exact xR _ | refine xX ?_ _ | refine xA ?_ _) | refine xD ?_ | refine xN ?_ _ | exact xR _)⟩
 ·have HR := hid (show refN (ref / 16777216) (ref % 16777216) = (0, 3) by unfold refN; rw [if_neg (by omega)])
  have HW := hid (show whoN ref = (0, 0) by unfold whoN; rw [if_neg hv])
  clear hv
  go_enter Tryd.func62, Tryd.ntmps62
  go_wp2_with fail
  rw [HM.out]
  go_call (ref_any _ _ _) as e w' ⟨rfl, r, rfl⟩
  rw [HR.out]
  go_wp2_with fail
  go_ret2
  exact ⟨by rw [HW.out]; rfl, by (show Ext _ _; repeat first | (with_reducible first | (refine xH ?_; assumption) | exact xR _ | refine xX ?_ _ | refine xA ?_ _) | refine xD ?_ | refine xN ?_ _ | exact xR _)⟩
def kindN (ref : Int) : Int := if ref = 0 then 0 else if 0 < (whoN ref).1 then 1 else 2
set_option maxHeartbeats 1000000 in
theorem kind_any (val ver ref : Int) (h0 : 0 ≤ ref) (h1 : ref ≤ 4294967295) (w : World) :
 Calls Tryd.prog 79 #[.agg #[.int .i64 val, .int .u32 ver, .int .u32 ref]] w fun e w' => e = .returned (.int .i64 (kindN ref)) ∧ ∃ r, w' = ext w r := by
 have HB := hid (And.intro h0 h1)
 by_cases hz : ref = 0
 ·have HK := hid (show kindN ref = 0 by simp [kindN, hz])
  have hz' : (ref == 0) = true := by simpa using hz
  clear hz
  go_enter Tryd.func79, Tryd.ntmps79
  go_wp2_with fail
  go_call (who_any ref HB.out.1 HB.out.2 _) as e w' ⟨rfl, r, rfl⟩
  go_wp2_with fail
  go_ret
  exact ⟨ret_int HK.out.symm, by (show Ext _ _; repeat first | (with_reducible first | (refine xH ?_; assumption) | exact xR _ | refine xX ?_ _ | refine xA ?_ _) | refine xD ?_ | refine xN ?_ _ | exact xR _)⟩
 ·have hz' : (ref == 0) = false := by simpa using hz
  by_cases hw : 0 < (whoN ref).1
  ·have HK := hid (show kindN ref = 1 by simp [kindN, hz, hw])
   clear hz
   go_enter Tryd.func79, Tryd.ntmps79
   go_wp2_with fail
   go_call (who_any ref HB.out.1 HB.out.2 _) as e w' ⟨rfl, r, rfl⟩
   go_wp2_with fail
   go_ret
   exact ⟨ret_int HK.out.symm, by (show Ext _ _; repeat first | (with_reducible first | (refine xH ?_; assumption) | exact xR _ | refine xX ?_ _ | refine xA ?_ _) | refine xD ?_ | refine xN ?_ _ | exact xR _)⟩
  ·have HK := hid (show kindN ref = 2 by simp [kindN, hz, hw])
   clear hz
   go_enter Tryd.func79, Tryd.ntmps79
   go_wp2_with fail
   go_call (who_any ref HB.out.1 HB.out.2 _) as e w' ⟨rfl, r, rfl⟩
   go_wp2_with fail
   go_ret
   exact ⟨ret_int HK.out.symm, by (show Ext _ _; repeat first | (with_reducible first | (refine xH ?_; assumption) | exact xR _ | refine xX ?_ _ | refine xA ?_ _) | refine xD ?_ | refine xN ?_ _ | exact xR _)⟩
theorem kindN_zero (ref : Int) : (kindN ref == 0) = (ref == 0) := by
 unfold kindN
 by_cases hz : ref = 0
 ·simp [hz]
 ·rw [if_neg hz]
  split <;> simp [hz]
set_option maxHeartbeats 1000000 in
theorem plain_any (val ver ref : Int) (h0 : 0 ≤ ref) (h1 : ref ≤ 4294967295) (w : World) :
 Calls Tryd.prog 74 #[.agg #[.int .i64 val, .int .u32 ver, .int .u32 ref]] w fun e w' => e = .returned (.bool (ref == 0)) ∧ ∃ r, w' = ext w r := by
 have HB := hid (And.intro h0 h1)
 clear h0 h1
 go_enter Tryd.func74, Tryd.ntmps74
 go_wp2_with fail
 go_call (kind_any val ver ref HB.out.1 HB.out.2 _) as e w' ⟨rfl, r, rfl⟩
 go_wp2_with fail
 go_ret
 exact ⟨ret_bool (kindN_zero ref), by (show Ext _ _; repeat first | (with_reducible first | (refine xH ?_; assumption) | exact xR _ | refine xX ?_ _ | refine xA ?_ _) | refine xD ?_ | refine xN ?_ _ | exact xR _)⟩
end Go.Proofs.YtdpbcfjfnclpiaaDoor
namespace Go.Proofs.YtdpbcfjfnclpiaaDoor
set_option linter.unusedSimpArgs false
set_option linter.unusedVariables false
open Go.RowKit
structure En where
 loc : Int
 val : Int
 ver : Int
 ref : Int
 new : Int
 wr : Bool
def enE (e : En) : List Value := [.int .i64 e.loc, .int .i64 e.val, .int .u32 e.ver, .int .u32 e.ref, .int .i64 e.new, .bool e.wr]
theorem enE_len (e : En) : (enE e).length = 6 := rfl
theorem enE_one (e : En) : ∀ u ∈ enE e, u.oneCell' = true := by
 intro u hu
 simp only [enE, List.mem_cons, List.not_mem_nil, or_false] at hu
 rcases hu with rfl | rfl | rfl | rfl | rfl | rfl <;> rfl
structure EnOk (e : En) : Prop where
 loc0 : -9223372036854775808 ≤ e.loc
 loc1 : e.loc ≤ 9223372036854775807
 val0 : -9223372036854775808 ≤ e.val
 val1 : e.val ≤ 9223372036854775807
 ver0 : 0 ≤ e.ver
 ver1 : e.ver ≤ 4294967295
 ref0 : 0 ≤ e.ref
 ref1 : e.ref ≤ 4294967295
 new0 : -9223372036854775808 ≤ e.new
 new1 : e.new ≤ 9223372036854775807
abbrev Es (w : World) (v : Value) (l : List En) : Prop := Sl w 6 enE v l
def wrongN (e : En) : Int :=
 if e.loc < 0 ∨ 4096 ≤ e.loc then 3 else if e.ref ≠ 0 then 13 else if e.wr = true ∧ e.ver = 4294967295 then 9 else if e.wr = false ∧ e.new ≠ e.val then 4 else 0
set_option maxHeartbeats 1000000 in
theorem wrong_any (e : En) (h : EnOk e) (w : World) :
 Calls Tryd.prog 66 #[.agg #[.int .i64 e.loc, .int .i64 e.val, .int .u32 e.ver, .int .u32 e.ref, .int .i64 e.new, .bool e.wr]] w fun x w' => x = .returned (.int .i64 (wrongN e)) ∧ ∃ r, w' = ext w r := by
 obtain ⟨loc, val, ver, ref, new, wr⟩ := e
 obtain ⟨h1, h2, h3, h4, h5, h6, h7, h8, h9, h10⟩ := h
 simp only [] at h1 h2 h3 h4 h5 h6 h7 h8 h9 h10 ⊢
 by_cases c1 : loc < 0
 ·have HR := hid (show wrongN ⟨loc, val, ver, ref, new, wr⟩ = 3 by simp [wrongN, c1])
  go_enter Tryd.func66, Tryd.ntmps66
  go_wp2_with fail
  go_ret
  exact ⟨ret_int HR.out.symm, by (show Ext _ _; repeat first | (with_reducible first | (refine xH ?_; assumption) | exact xR _ | refine xX ?_ _ | refine xA ?_ _) | refine xD ?_ | refine xN ?_ _ | exact xR _)⟩
 by_cases c2 : 4096 ≤ loc
 ·have HR := hid (show wrongN ⟨loc, val, ver, ref, new, wr⟩ = 3 by simp [wrongN, c2])
  go_enter Tryd.func66, Tryd.ntmps66
  go_wp2_with fail
  go_ret
  exact ⟨ret_int HR.out.symm, by (show Ext _ _; repeat first | (with_reducible first | (refine xH ?_; assumption) | exact xR _ | refine xX ?_ _ | refine xA ?_ _) | refine xD ?_ | refine xN ?_ _ | exact xR _)⟩
 have c0 : ¬ (loc < 0 ∨ 4096 ≤ loc) := by omega
 have H78 := hid (And.intro h7 h8)
 by_cases c3 : ref = 0
 ·subst c3
  cases wr
  ·by_cases c4 : new = val
   ·have HR := hid (show wrongN ⟨loc, val, ver, 0, new, false⟩ = 0 by simp [wrongN, c0, c4])
    have c4' : (new != val) = false := by simpa using c4
    clear c4 c0
    go_enter Tryd.func66, Tryd.ntmps66
    go_wp2_with fail
    go_call (plain_any val ver 0 H78.out.1 H78.out.2 _) as e w' ⟨rfl, r, rfl⟩
    go_wp2_with fail
    go_ret
    exact ⟨ret_int HR.out.symm, by (show Ext _ _; repeat first | (with_reducible first | (refine xH ?_; assumption) | exact xR _ | refine xX ?_ _ | refine xA ?_ _) | refine xD ?_ | refine xN ?_ _ | exact xR _)⟩
   ·have HR := hid (show wrongN ⟨loc, val, ver, 0, new, false⟩ = 4 by simp [wrongN, c0, c4])
    have c4' : (new != val) = true := by simpa using c4
    clear c4 c0
    go_enter Tryd.func66, Tryd.ntmps66
    go_wp2_with fail
    go_call (plain_any val ver 0 H78.out.1 H78.out.2 _) as e w' ⟨rfl, r, rfl⟩
    go_wp2_with fail
    go_ret
    exact ⟨ret_int HR.out.symm, by (show Ext _ _; repeat first | (with_reducible first | (refine xH ?_; assumption) | exact xR _ | refine xX ?_ _ | refine xA ?_ _) | refine xD ?_ | refine xN ?_ _ | exact xR _)⟩
  ·by_cases c4 : ver = 4294967295
   ·have HR := hid (show wrongN ⟨loc, val, ver, 0, new, true⟩ = 9 by simp [wrongN, c0, c4])
    have c4' : (ver == 4294967295) = true := by simpa using c4
    clear c4 c0
    go_enter Tryd.func66, Tryd.ntmps66
    go_wp2_with fail
    go_call (plain_any val ver 0 H78.out.1 H78.out.2 _) as e w' ⟨rfl, r, rfl⟩
    go_wp2_with fail
    go_ret
    exact ⟨ret_int HR.out.symm, by (show Ext _ _; repeat first | (with_reducible first | (refine xH ?_; assumption) | exact xR _ | refine xX ?_ _ | refine xA ?_ _) | refine xD ?_ | refine xN ?_ _ | exact xR _)⟩
   ·have HR := hid (show wrongN ⟨loc, val, ver, 0, new, true⟩ = 0 by simp [wrongN, c0, c4])
    have c4' : (ver == 4294967295) = false := by simpa using c4
    clear c4 c0
    go_enter Tryd.func66, Tryd.ntmps66
    go_wp2_with fail
    go_call (plain_any val ver 0 H78.out.1 H78.out.2 _) as e w' ⟨rfl, r, rfl⟩
    go_wp2_with fail
    go_ret
    exact ⟨ret_int HR.out.symm, by (show Ext _ _; repeat first | (with_reducible first | (refine xH ?_; assumption) | exact xR _ | refine xX ?_ _ | refine xA ?_ _) | refine xD ?_ | refine xN ?_ _ | exact xR _)⟩
 ·have HR := hid (show wrongN ⟨loc, val, ver, ref, new, wr⟩ = 13 by simp [wrongN, c0, c3])
  have c3' : (ref == 0) = false := by simpa using c3
  clear c3 c0
  go_enter Tryd.func66, Tryd.ntmps66
  go_wp2_with fail
  go_call (plain_any val ver ref H78.out.1 H78.out.2 _) as e w' ⟨rfl, r, rfl⟩
  go_wp2_with fail
  go_ret
  exact ⟨ret_int HR.out.symm, by (show Ext _ _; repeat first | (with_reducible first | (refine xH ?_; assumption) | exact xR _ | refine xX ?_ _ | refine xA ?_ _) | refine xD ?_ | refine xN ?_ _ | exact xR _)⟩
end Go.Proofs.YtdpbcfjfnclpiaaDoor
namespace Go.Proofs.YtdpbcfjfnclpiaaDoor
set_option linter.unusedSimpArgs false
set_option linter.unusedVariables false
open Go.RowKit
set_option maxHeartbeats 400000 in
theorem same_at (e : En) (kb : Nat) (x : Int) (w : World) (hc : w.cell? ⟨kb, 0, none⟩ = some (.int .i64 x)) :
 Calls Tryd.prog 68 #[.agg #[.int .i64 e.loc, .int .i64 e.val, .int .u32 e.ver, .int .u32 e.ref, .int .i64 e.new, .bool e.wr], .pointer (some ⟨kb, 0, none⟩)] w fun y w' => y = .returned (.bool (e.loc == x)) ∧ ∃ r, w' = ext w r := by
 have hlt := World.block_lt_of_cell? w _ hc
 simp only [] at hlt
 go_enter Tryd.func68, Tryd.ntmps68
 go_wp2_with fail
 go_ret
 exact ⟨rfl, by (show Ext _ _; repeat first | (with_reducible first | (refine xH ?_; assumption) | exact xR _ | refine xX ?_ _ | refine xA ?_ _) | refine xD ?_ | refine xN ?_ _ | exact xR _)⟩
def idxN (l : List En) (x : Int) : Int := match l.findIdx? (fun y => y.loc == x) with | some i => i | none => -1
theorem idxN_hit {l : List En} {x : Int} {j : Nat} {e : En} (h : l[j]? = some e) (he : e.loc = x) (hno : ∀ q, q < j → ∀ e', l[q]? = some e' → e'.loc ≠ x) : idxN l x = j := by
 obtain ⟨hj, hk⟩ := List.getElem?_eq_some_iff.1 h
 have : l.findIdx? (fun y => y.loc == x) = some j := by
  rw [List.findIdx?_eq_some_iff_getElem]
  refine ⟨hj, by simp [hk, he], fun q hq => ?_⟩
  have := hno q hq l[q] (List.getElem?_eq_getElem (by omega))
  simpa using this
 simp [idxN, this]
theorem idxN_miss {l : List En} {x : Int} (hno : ∀ q, q < l.length → ∀ e', l[q]? = some e' → e'.loc ≠ x) : idxN l x = -1 := by
 have : l.findIdx? (fun y => y.loc == x) = none := by
  rw [List.findIdx?_eq_none_iff]
  intro e he
  obtain ⟨q, hq, rfl⟩ := List.getElem_of_mem he
  have := hno q hq l[q] (List.getElem?_eq_getElem hq)
  simpa using this
 simp [idxN, this]
set_option maxHeartbeats 1000000 in
theorem index_any (l : List En) (v : Value) (kb : Nat) (x : Int) (w : World) (hv : Es w v l) (hc : w.cell? ⟨kb, 0, none⟩ = some (.int .i64 x)) :
 Calls Tryd.prog 75 #[v, .func (.func 68) #[] #[.pointer (some ⟨kb, 0, none⟩)]] w fun y w' => y = .returned (.int .i64 (idxN l x)) ∧ ∃ r, w' = ext w r := by
 have HV := hid hv
 obtain ⟨a, c, rfl, ⟨hm, hlc⟩, _⟩ := hv
 have HC := hid hc
 clear hc
 go_enter Tryd.func75, Tryd.ntmps75
 go_wp2_with fail
 go_loopw [8] (fun i wr => ∃ j : Nat, j ≤ l.length ∧ i = .int .i64 j ∧ (∀ q, q < j → ∀ e', l[q]? = some e' → e'.loc ≠ x) ∧ Ext w wr) (fun i _ => l.length - (intOf i).toNat)
 case atStart => exact ⟨0, by omega, rfl, fun _ h => by omega, by (show Ext _ _; repeat first | (with_reducible first | (refine xH ?_; assumption) | exact xR _ | refine xX ?_ _ | refine xA ?_ _) | refine xD ?_ | refine xN ?_ _ | exact xR _)⟩
 case round =>
  obtain ⟨j, hj, rfl, hno, r, rfl⟩ := hrel
  have HNo := hid hno
  clear hno
  by_cases hjl : j < l.length
  ·have hd : decide (j < l.length) = true := decide_eq_true hjl
   obtain ⟨hnl, b, o, hab, hbl, hcs⟩ := Sl.at HV.out (List.getElem?_eq_getElem hjl)
   have HX := hid (List.getElem?_eq_getElem hjl)
   generalize l[j] = e at hcs HX
   subst hab
   have c0 := hcs 0 (by omega)
   have c1 := hcs 1 (by omega)
   have c2 := hcs 2 (by omega)
   have c3 := hcs 3 (by omega)
   have c4 := hcs 4 (by omega)
   have c5 := hcs 5 (by omega)
   simp [enE] at c0 c1 c2 c3 c4 c5
   clear hcs hnl
   by_cases he : e.loc = x
   ·have he' : (e.loc == x) = true := by simpa using he
    have HR := hid (show idxN l x = j from idxN_hit HX.out he HNo.out)
    clear he
    go_wp2_with fail
    go_call (same_at e kb x _ (Ext.cell ⟨_, rfl⟩ HC.out)) as y w' ⟨rfl, r2, rfl⟩
    go_wp2_with fail
    go_ret
    exact ⟨ret_int HR.out.symm, by (show Ext _ _; repeat first | (with_reducible first | (refine xH ?_; assumption) | exact xR _ | refine xX ?_ _ | refine xA ?_ _) | refine xD ?_ | refine xN ?_ _ | exact xR _)⟩
   ·have he' : (e.loc == x) = false := by simpa using he
    have HR : Hid (∀ q, q < j + 1 → ∀ e', l[q]? = some e' → e'.loc ≠ x) := hid (fun q hq e' hq' => by
     by_cases hqj : q = j
     ·subst hqj; rw [HX.out] at hq'; cases hq'; exact he
     ·exact HNo.out q (by omega) e' hq')
    clear he
    go_wp2_with fail
    go_call (same_at e kb x _ (Ext.cell ⟨_, rfl⟩ HC.out)) as y w' ⟨rfl, r2, rfl⟩
    go_wp2_with fail
    go_roundw
    case rel => exact ⟨j + 1, by omega, by go_num, HR.out, by (show Ext _ _; repeat first | (with_reducible first | (refine xH ?_; assumption) | exact xR _ | refine xX ?_ _ | refine xA ?_ _) | refine xD ?_ | refine xN ?_ _ | exact xR _)⟩
    case measure => simp [intOf]; omega
  ·have hd : decide (j < l.length) = false := decide_eq_false hjl
   have HR := hid (show idxN l x = -1 from idxN_miss (fun q hq => HNo.out q (by omega)))
   go_wp2_with fail
   go_ret
   exact ⟨ret_int HR.out.symm, by (show Ext _ _; repeat first | (with_reducible first | (refine xH ?_; assumption) | exact xR _ | refine xX ?_ _ | refine xA ?_ _) | refine xD ?_ | refine xN ?_ _ | exact xR _)⟩
theorem idxN_any (l : List En) (x : Int) : decide (0 ≤ idxN l x) = l.any (fun y => y.loc == x) := by
 unfold idxN
 cases h : l.findIdx? (fun y => y.loc == x) with
 | none =>
  rw [List.findIdx?_eq_none_iff] at h
  have : l.any (fun y => y.loc == x) = false := by
   rw [List.any_eq_false]; intro y hy; have := h y hy; simpa using this
  rw [this]; simp
 | some i =>
  have : l.any (fun y => y.loc == x) = true := by
   rw [List.findIdx?_eq_some_iff_getElem] at h
   obtain ⟨hi, hp, _⟩ := h
   rw [List.any_eq_true]; exact ⟨l[i], List.getElem_mem hi, hp⟩
  rw [this]; simp
set_option maxHeartbeats 1000000 in
theorem contains_any (l : List En) (v : Value) (kb : Nat) (x : Int) (w : World) (hv : Es w v l) (hc : w.cell? ⟨kb, 0, none⟩ = some (.int .i64 x)) :
 Calls Tryd.prog 67 #[v, .func (.func 68) #[] #[.pointer (some ⟨kb, 0, none⟩)]] w fun y w' => y = .returned (.bool (l.any (fun y => y.loc == x))) ∧ ∃ r, w' = ext w r := by
 have HV := hid hv
 obtain ⟨a, c, rfl, ⟨hm, hlc⟩, _⟩ := hv
 have HC := hid hc
 clear hc
 go_enter Tryd.func67, Tryd.ntmps67
 go_wp2_with fail
 go_call (index_any l _ kb x _ HV.out HC.out) as y w' ⟨rfl, r2, rfl⟩
 go_wp2_with fail
 go_ret
 exact ⟨ret_bool (idxN_any l x), by (show Ext _ _; repeat first | (with_reducible first | (refine xH ?_; assumption) | exact xR _ | refine xX ?_ _ | refine xA ?_ _) | refine xD ?_ | refine xN ?_ _ | exact xR _)⟩
end Go.Proofs.YtdpbcfjfnclpiaaDoor
namespace Go.Proofs.YtdpbcfjfnclpiaaDoor
set_option linter.unusedSimpArgs false
set_option linter.unusedVariables false
open Go.RowKit
def checkGo (pre : List En) : List En → Int
 | [] => 0
 | x :: r => if wrongN x ≠ 0 then wrongN x else if pre.any (fun y => y.loc == x.loc) = true then 11 else checkGo (pre ++ [x]) r
def checkE (l : List En) : Int := if l.length = 0 then 8 else if 32 < l.length then 15 else checkGo [] l
theorem checkGo_at {l : List En} {j : Nat} {e : En} (h : l[j]? = some e) : checkGo (l.take j) (l.drop j) = if wrongN e ≠ 0 then wrongN e else if (l.take j).any (fun y => y.loc == e.loc) = true then 11 else checkGo (l.take (j + 1)) (l.drop (j + 1)) := by
 obtain ⟨hj, hk⟩ := List.getElem?_eq_some_iff.1 h
 rw [List.drop_eq_getElem_cons hj, hk, List.take_succ_eq_append_getElem hj, hk]
 rfl
set_option maxHeartbeats 2000000 in
theorem echeck_any (l : List En) (v : Value) (hok : ∀ e ∈ l, EnOk e) (w : World) (hv : Es w v l) :
 Calls Tryd.prog 58 #[v] w fun y w' => y = .returned (.int .i64 (checkE l)) ∧ ∃ r, w' = ext w r := by
 have HV := hid hv
 have hmf : ∀ (fn : Fn) (first cap : Array Value) (w : World), (Instr.makeFunc fn first cap).run Tryd.prog w = .ok (.func fn first cap) w := fun _ _ _ _ => rfl
 have HO := hid hok
 obtain ⟨a, c, rfl, ⟨hm, hlc⟩, _⟩ := hv
 clear hok
 by_cases h0 : l.length = 0
 ·have HR := hid (show checkE l = 8 by simp [checkE, h0])
  have h0' : ((l.length : Int) == 0) = true := by rw [h0]; rfl
  clear h0
  go_enter Tryd.func58, Tryd.ntmps58
  go_wp2_with fail
  go_ret
  exact ⟨ret_int HR.out.symm, by (show Ext _ _; repeat first | (with_reducible first | (refine xH ?_; assumption) | exact xR _ | refine xX ?_ _ | refine xA ?_ _) | refine xD ?_ | refine xN ?_ _ | exact xR _)⟩
 by_cases h32 : 32 < l.length
 ·have HR := hid (show checkE l = 15 by unfold checkE; rw [if_neg h0, if_pos h32])
  have h0' : ((l.length : Int) == 0) = false := beq_eq_false_iff_ne.2 (by omega)
  have h32' : (32 : Int) < (l.length : Int) := by omega
  clear h0 h32
  go_enter Tryd.func58, Tryd.ntmps58
  go_wp2_with fail
  go_ret
  exact ⟨ret_int HR.out.symm, by (show Ext _ _; repeat first | (with_reducible first | (refine xH ?_; assumption) | exact xR _ | refine xX ?_ _ | refine xA ?_ _) | refine xD ?_ | refine xN ?_ _ | exact xR _)⟩
 have HE := hid (show checkE l = checkGo (l.take 0) (l.drop 0) by unfold checkE; rw [if_neg h0, if_neg h32]; simp)
 have h0' : ((l.length : Int) == 0) = false := beq_eq_false_iff_ne.2 (by omega)
 have h32' : ¬ (32 : Int) < (l.length : Int) := by omega
 clear h0
 go_enter Tryd.func58, Tryd.ntmps58
 go_wp2_with fail
 go_loopw [16] (fun i wr => ∃ j : Nat, j ≤ l.length ∧ i = .int .i64 j ∧ Hid (checkE l = checkGo (l.take j) (l.drop j)) ∧ Ext w wr) (fun i _ => l.length - (intOf i).toNat)
 case atStart => exact ⟨0, by omega, rfl, HE, by (show Ext _ _; repeat first | (with_reducible first | (refine xH ?_; assumption) | exact xR _ | refine xX ?_ _ | refine xA ?_ _) | refine xD ?_ | refine xN ?_ _ | exact xR _)⟩
 case round =>
  clear HE
  obtain ⟨j, hj, rfl, HE, r, rfl⟩ := hrel
  by_cases hjl : j < l.length
  ·have hd : decide (j < l.length) = true := decide_eq_true hjl
   obtain ⟨hnl, b, o, hab, hbl, hcs⟩ := Sl.at HV.out (List.getElem?_eq_getElem hjl)
   have HX := hid (List.getElem?_eq_getElem hjl)
   have hek := HO.out l[j] (List.getElem_mem hjl)
   generalize l[j] = e at hcs HX hek
   have HK := hid hek
   subst hab
   have c0 := hcs 0 (by omega)
   have c1 := hcs 1 (by omega)
   have c2 := hcs 2 (by omega)
   have c3 := hcs 3 (by omega)
   have c4 := hcs 4 (by omega)
   have c5 := hcs 5 (by omega)
   simp [enE] at c0 c1 c2 c3 c4 c5
   have HA := hid (checkGo_at HX.out)
   clear hcs hnl hek
   by_cases hw : wrongN e = 0
   ·have hw' : (wrongN e != 0) = false := by simpa using hw
    cases ha : (l.take j).any (fun y => y.loc == e.loc)
    ·have HN : Hid (checkE l = checkGo (l.take (j + 1)) (l.drop (j + 1))) := hid (by rw [HE.out, HA.out, if_neg (by simpa using hw), ha]; simp)
     have HAn := hid ha
     clear ha hw
     go_wp2_with fail
     go_call (wrong_any e HK.out _) as y w' ⟨rfl, r2, rfl⟩
     go_wp2_with fail
     go_call (contains_any (l.take j) _ _ e.loc _ ((Sl.take HV.out j hj c (by omega)).of enE_len (by (show Ext _ _; repeat first | (with_reducible first | (refine xH ?_; assumption) | exact xR _ | refine xX ?_ _ | refine xA ?_ _) | refine xD ?_ | refine xN ?_ _ | exact xR _))) (by simp [go_sem])) as y w' ⟨rfl, r3, rfl⟩
     rw [HAn.out]
     go_wp2_with fail
     go_roundw
     case rel => exact ⟨j + 1, by omega, by go_num, HN, by (show Ext _ _; repeat first | (with_reducible first | (refine xH ?_; assumption) | exact xR _ | refine xX ?_ _ | refine xA ?_ _) | refine xD ?_ | refine xN ?_ _ | exact xR _)⟩
     case measure => simp [intOf]; omega
    ·have HN : Hid (checkE l = 11) := hid (by rw [HE.out, HA.out, if_neg (by simpa using hw), ha]; simp)
     have HAn := hid ha
     clear ha hw
     go_wp2_with fail
     go_call (wrong_any e HK.out _) as y w' ⟨rfl, r2, rfl⟩
     go_wp2_with fail
     go_call (contains_any (l.take j) _ _ e.loc _ ((Sl.take HV.out j hj c (by omega)).of enE_len (by (show Ext _ _; repeat first | (with_reducible first | (refine xH ?_; assumption) | exact xR _ | refine xX ?_ _ | refine xA ?_ _) | refine xD ?_ | refine xN ?_ _ | exact xR _))) (by simp [go_sem])) as y w' ⟨rfl, r3, rfl⟩
     rw [HAn.out]
     go_wp2_with fail
     go_ret
     exact ⟨ret_int HN.out.symm, by (show Ext _ _; repeat first | (with_reducible first | (refine xH ?_; assumption) | exact xR _ | refine xX ?_ _ | refine xA ?_ _) | refine xD ?_ | refine xN ?_ _ | exact xR _)⟩
   ·have HN : Hid (checkE l = wrongN e) := hid (by rw [HE.out, HA.out, if_pos hw])
    have hw' : (wrongN e != 0) = true := by simpa using hw
    clear hw
    go_wp2_with fail
    go_call (wrong_any e HK.out _) as y w' ⟨rfl, r2, rfl⟩
    go_wp2_with fail
    go_ret
    exact ⟨ret_int HN.out.symm, by (show Ext _ _; repeat first | (with_reducible first | (refine xH ?_; assumption) | exact xR _ | refine xX ?_ _ | refine xA ?_ _) | refine xD ?_ | refine xN ?_ _ | exact xR _)⟩
  ·have hd : decide (j < l.length) = false := decide_eq_false hjl
   have HN : Hid (checkE l = 0) := hid (by rw [HE.out, List.drop_eq_nil_of_le (by omega)]; rfl)
   go_wp2_with fail
   go_ret
   exact ⟨ret_int HN.out.symm, by (show Ext _ _; repeat first | (with_reducible first | (refine xH ?_; assumption) | exact xR _ | refine xX ?_ _ | refine xA ?_ _) | refine xD ?_ | refine xN ?_ _ | exact xR _)⟩
end Go.Proofs.YtdpbcfjfnclpiaaDoor
