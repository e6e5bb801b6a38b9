/- The walk of the reference's Find. -/
import Derived.Test.YtoaghifcgjpijaaDoorLayG
import Derived.Test.YtoaghifcgjpijaaDoorOwn
namespace Go.Proofs.YtoaghifcgjpijaaDoor
open Go.RowKit

/-- Plain: are the uses equal? (closed to simp) -/
def kdB (x k : Kd) : Bool := decide (x = k)

theorem eq_kind (x1 x2 x3 k1 k2 k3 : Int) (w : World) : (binOp .eql 35 (.agg #[.int .i64 x1, .int .i64 x2, .int .i64 x3]) (.agg #[.int .i64 k1, .int .i64 k2, .int .i64 k3])).run Tryd.prog w = .ok (.bool (kdB (x1, x2, x3) (k1, k2, k3))) w := by
  unfold kdB
  have hp : Tryd.prog.stoodInHeld 35 = false := by kernel_rfl
  rw [run_eql_struct, run_equalIn_struct w 9999 _ _ _ (by kernel_rfl) hp]
  by_cases h1 : x1 = k1
  · by_cases h2 : x2 = k2
    · by_cases h3 : x3 = k3
      all_goals simp [Op.eqFields, Program.fieldsOf, Tryd.underlying35, go_sem, h1, h2, h3]
    · simp [Op.eqFields, Program.fieldsOf, Tryd.underlying35, go_sem, h1, h2]
  · simp [Op.eqFields, Program.fieldsOf, Tryd.underlying35, go_sem, h1]

theorem eq_guard (op : BinOp) (x y : Operand) (xs ys : Array Value) (w : World) : (eqGuard op 35 x y (.agg xs) (.agg ys)).run Tryd.prog w = .ok () w :=
  run_eqGuard_agg w op _ x y xs ys (by kernel_rfl)

theorem findN_hit {l : List Kd} {k : Kd} {j : Nat} (h : l[j]? = some k) (hno : ∀ q, q < j → l[q]? ≠ some k) : findN l k = j := by
  obtain ⟨hj, hk⟩ := List.getElem?_eq_some_iff.1 h
  have : l.findIdx? (· == k) = some j := by
    rw [List.findIdx?_eq_some_iff_getElem]
    refine ⟨hj, by simp [hk], fun q hq => ?_⟩
    have h1 := hno q hq
    rw [List.getElem?_eq_getElem (by omega)] at h1
    simpa using h1
  simp [findN, this]
theorem findN_miss {l : List Kd} {k : Kd} (hno : ∀ q, q < l.length → l[q]? ≠ some k) : findN l k = -1 := by
  have : l.findIdx? (· == k) = none := by
    rw [List.findIdx?_eq_none_iff]
    intro x hx
    obtain ⟨q, hq, rfl⟩ := List.getElem_of_mem hx
    have h1 := hno q hq
    rw [List.getElem?_eq_getElem hq] at h1
    simpa using h1
  simp [findN, this]

set_option maxHeartbeats 1000000 in
theorem find_any (l : List Kd) (k : Kd) (base : Nat) (v : Value) (w : World) (hl : l.length ≤ 100000) (hv : Ks w base v l) :
    Calls Tryd.prog 15 #[v, .agg #[.int .i64 k.1, .int .i64 k.2.1, .int .i64 k.2.2]] w fun e w' => e = .returned (.int .i64 (findN l k)) ∧ ∃ r, w' = ext w r := by
  obtain ⟨a, cp, hsh⟩ := Own.shape hv
  subst hsh
  have HV := hid hv
  clear hv
  obtain ⟨k1, k2, k3⟩ := k
  simp only []
  have hek := eq_kind
  have heg := eq_guard
  go_enter Tryd.func15, Tryd.ntmps15
  go_wp2_with fail
  go_loopw [5] (fun i wr => ∃ j : Nat, j ≤ l.length ∧ i = .int .i64 j ∧ (∀ q, q < j → l[q]? ≠ some (k1, k2, k3)) ∧ Ext (w.alloc (.cells #[.int .i64 k1, .int .i64 k2, .int .i64 k3] 35)) wr) (fun i _ => l.length - (intOf i).toNat)
  case atStart => exact ⟨0, by omega, rfl, fun _ h => by omega, by (show Ext _ _; repeat (first | with_reducible exact Ext.refl _ | with_reducible refine Ext.ext ?_ _ | with_reducible refine Ext.alloc ?_ _ | refine Ext.drew ?_ | refine Ext.drewN ?_ _ | exact Ext.refl _))⟩
  case round =>
    obtain ⟨j, hj, rfl, hno, r, rfl⟩ := hrel
    have HNo := hid hno
    clear hno
    by_cases hjl : j < l.length
    · have hd : decide (j < l.length) = true := decide_eq_true hjl
      obtain ⟨g, c, hg, hgl, hc⟩ := Own.cellsAt kdE_len HV.out (List.getElem?_eq_getElem hjl)
      generalize hx : l[j] = x at hc
      have hc0 := hc 0 (by omega)
      have hc1 := hc 1 (by omega)
      have hc2 := hc 2 (by omega)
      simp only [kdE] at hc0 hc1 hc2
      obtain ⟨x1, x2, x3⟩ := x
      simp at hg hc0 hc1 hc2
      obtain ⟨rfl, rfl⟩ := hg
      have HX := hid hx
      clear hc hx
      by_cases he : (x1, x2, x3) = (k1, k2, k3)
      · have hb : kdB (x1, x2, x3) (k1, k2, k3) = true := decide_eq_true he
        have HR := hid (show findN l (k1, k2, k3) = j from findN_hit (by rw [List.getElem?_eq_getElem hjl, HX.out, he]) HNo.out)
        clear he
        go_wp2_with fail
        refine region_ext (by kernel_rfl) (by kernel_rfl) ?_
        repeat (go_big_quiet_step (fail))
        refine wpQuiet_nil ?_
        rintro _ ⟨r3, rfl⟩
        go_wp2_with fail
        go_ret
        exact ⟨ret_int HR.out.symm, by (show Ext _ _; repeat (first | with_reducible exact Ext.refl _ | with_reducible refine Ext.ext ?_ _ | with_reducible refine Ext.alloc ?_ _ | refine Ext.drew ?_ | refine Ext.drewN ?_ _ | exact Ext.refl _))⟩
      · have hb : kdB (x1, x2, x3) (k1, k2, k3) = false := decide_eq_false he
        have HR : Hid (∀ q, q < j + 1 → l[q]? ≠ some (k1, k2, k3)) := hid (fun q hq => by
          by_cases hqj : q = j
          · subst hqj; rw [List.getElem?_eq_getElem hjl, HX.out]; simpa using he
          · exact HNo.out q (by omega))
        clear he
        go_wp2_with fail
        refine region_ext (by kernel_rfl) (by kernel_rfl) ?_
        repeat (go_big_quiet_step (fail))
        refine wpQuiet_nil ?_
        rintro _ ⟨r3, rfl⟩
        go_wp2_with fail
        go_roundw
        case rel => exact ⟨j + 1, by omega, by go_num, HR.out, by (show Ext _ _; repeat (first | with_reducible exact Ext.refl _ | with_reducible refine Ext.ext ?_ _ | with_reducible refine Ext.alloc ?_ _ | refine Ext.drew ?_ | refine Ext.drewN ?_ _ | exact Ext.refl _))⟩
        case measure => simp [intOf]; omega
    · have hd : decide (j < l.length) = false := decide_eq_false hjl
      have HR := hid (show findN l (k1, k2, k3) = -1 from findN_miss (fun q hq => HNo.out q (by omega)))
      go_wp2_with fail
      go_ret
      exact ⟨ret_int HR.out.symm, by (show Ext _ _; repeat (first | with_reducible exact Ext.refl _ | with_reducible refine Ext.ext ?_ _ | with_reducible refine Ext.alloc ?_ _ | refine Ext.drew ?_ | refine Ext.drewN ?_ _ | exact Ext.refl _))⟩

end Go.Proofs.YtoaghifcgjpijaaDoor
