/- Walks of package model's At, Len, Words, Holds. -/
import Derived.Test.YtlijgheghodfeaaDoorModA
namespace Go.Proofs.YtlijgheghodfeaaDoor
set_option linter.unusedSimpArgs false
set_option linter.unusedVariables false
open Go.RowKit

/-- Plain: the word of a location. -/
def atW (l : List Wd) (x : Int) : Wd × Bool := if 0 ≤ x then (match l[x.toNat]? with | some y => (y, true) | none => ((0, 0, 0), false)) else ((0, 0, 0), false)

set_option maxHeartbeats 1000000 in
theorem mat_any (l : List Wd) (v : Value) (x : Int) (w : World) (hv : Wsl w v l) :
    Calls Tryd.prog 23 #[.agg #[v], .int .i64 x] w fun y w' => y = .returned (.tuple #[.agg #[.int .i64 (atW l x).1.1, .int .u32 (atW l x).1.2.1, .int .u32 (atW l x).1.2.2], .bool (atW l x).2]) ∧ ∃ r, w' = ext w r := by
  have HV := hid hv
  obtain ⟨a, c, rfl, ⟨hm, hlc⟩, _⟩ := hv
  by_cases h0 : 0 ≤ x
  · obtain ⟨k, rfl⟩ := Int.eq_ofNat_of_zero_le h0
    by_cases h1 : k < l.length
    · obtain ⟨hnl, b, o, hab, hbl, hcs⟩ := Sl.at HV.out (List.getElem?_eq_getElem h1)
      have HR := hid (show atW l k = (l[k], true) by simp [atW, h1])
      generalize l[k] = e at hcs HR
      subst hab
      have c0 := hcs 0 (by omega)
      have c1 := hcs 1 (by omega)
      have c2 := hcs 2 (by omega)
      simp [wdE] at c0 c1 c2
      clear hcs hnl
      go_enter Tryd.func23, Tryd.ntmps23
      go_wp2_with fail
      refine bodyPost_ret (v := .tuple #[.agg #[.int .i64 e.1, .int .u32 e.2.1, .int .u32 e.2.2], .bool true]) (by simp [results, Tryd.results23, go_sem]) rfl ⟨by rw [HR.out], by (show Ext _ _; repeat (first | with_reducible (refine Hid.out ?_; assumption) | with_reducible exact Ext.refl _ | with_reducible refine Ext.ext ?_ _ | with_reducible refine Ext.alloc ?_ _ | refine Ext.drew ?_ | refine Ext.drewN ?_ _ | exact Ext.refl _))⟩
    · have HR := hid (show atW l k = ((0, 0, 0), false) by simp [atW, List.getElem?_eq_none (Nat.le_of_not_lt h1)])
      go_enter Tryd.func23, Tryd.ntmps23
      go_wp2_with fail
      refine bodyPost_ret (v := .tuple #[.agg #[.int .i64 0, .int .u32 0, .int .u32 0], .bool false]) (by simp [results, Tryd.results23, go_sem]) rfl ⟨by rw [HR.out], by (show Ext _ _; repeat (first | with_reducible (refine Hid.out ?_; assumption) | with_reducible exact Ext.refl _ | with_reducible refine Ext.ext ?_ _ | with_reducible refine Ext.alloc ?_ _ | refine Ext.drew ?_ | refine Ext.drewN ?_ _ | exact Ext.refl _))⟩
  · have HR := hid (show atW l x = ((0, 0, 0), false) by simp [atW, h0])
    go_enter Tryd.func23, Tryd.ntmps23
    go_wp2_with fail
    refine bodyPost_ret (v := .tuple #[.agg #[.int .i64 0, .int .u32 0, .int .u32 0], .bool false]) (by simp [results, Tryd.results23, go_sem]) rfl ⟨by rw [HR.out], by (show Ext _ _; repeat (first | with_reducible (refine Hid.out ?_; assumption) | with_reducible exact Ext.refl _ | with_reducible refine Ext.ext ?_ _ | with_reducible refine Ext.alloc ?_ _ | refine Ext.drew ?_ | refine Ext.drewN ?_ _ | exact Ext.refl _))⟩

set_option maxHeartbeats 400000 in
theorem words_any (l : List Wd) (v : Value) (w : World) (hl : l.length ≤ 100000) (hv : Wsl w v l) :
    Calls Tryd.prog 31 #[.agg #[v]] w fun y w' => ∃ v', y = .returned v' ∧ (∃ r, w' = ext w r) ∧ Ws w' w.heap.size v' l := by
  have HV := hid hv
  clear hv
  go_enter Tryd.func31, Tryd.ntmps31
  go_wp2_with fail
  go_call (clone_any l v _ hl (HV.out.of wdE_len (by (show Ext _ _; repeat (first | with_reducible (refine Hid.out ?_; assumption) | with_reducible exact Ext.refl _ | with_reducible refine Ext.ext ?_ _ | with_reducible refine Ext.alloc ?_ _ | refine Ext.drew ?_ | refine Ext.drewN ?_ _ | exact Ext.refl _))))) as y w' ⟨v1, rfl, ⟨r, rfl⟩, hv1⟩
  go_wp2_with fail
  go_ret
  exact ⟨_, rfl, by (show Ext _ _; repeat (first | with_reducible (refine Hid.out ?_; assumption) | with_reducible exact Ext.refl _ | with_reducible refine Ext.ext ?_ _ | with_reducible refine Ext.alloc ?_ _ | refine Ext.drew ?_ | refine Ext.drewN ?_ _ | exact Ext.refl _)), Own.mono hv1 (by simp)⟩

/-- Plain: is the expectation of an entry met? -/
def met (l : List Wd) (e : En) : Bool := (atW l e.loc).2 && wdB (atW l e.loc).1 (e.val, e.ver, 0)
def holdsB (l : List Wd) (es : List En) : Bool := es.all (met l)

end Go.Proofs.YtlijgheghodfeaaDoor
