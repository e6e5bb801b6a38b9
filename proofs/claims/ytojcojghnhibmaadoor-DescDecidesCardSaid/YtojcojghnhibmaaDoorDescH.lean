/- Entries compared; the walk of the reference's Same. -/
import Derived.Test.YtojcojghnhibmaaDoorDescG
namespace Go.Proofs.YtojcojghnhibmaaDoor
set_option linter.unusedSimpArgs false
set_option linter.unusedVariables false
open Go.RowKit

/-- Plain: are the entries equal? -/
def enB (x y : En) : Bool := decide (x.loc = y.loc) && (decide (x.val = y.val) && decide (x.ver = y.ver) && decide (x.ref = y.ref)) && decide (x.new = y.new) && decide (x.wr = y.wr)
theorem enB_eq (x y : En) : enB x y = true ↔ x = y := by
  obtain ⟨x1, x2, x3, x4, x5, x6⟩ := x
  obtain ⟨y1, y2, y3, y4, y5, y6⟩ := y
  simp only [enB, Bool.and_eq_true, decide_eq_true_eq, En.mk.injEq]
  constructor
  · rintro ⟨⟨⟨h1, ⟨h2, h3⟩, h4⟩, h5⟩, h6⟩; exact ⟨h1, h2, h3, h4, h5, h6⟩
  · rintro ⟨h1, h2, h3, h4, h5, h6⟩; exact ⟨⟨⟨h1, ⟨h2, h3⟩, h4⟩, h5⟩, h6⟩
set_option maxRecDepth 100000 in
set_option maxHeartbeats 2000000 in
theorem eqIn_entry (x y : En) (w : World) : (Op.equalIn 10000 57 (.agg #[.int .i64 x.loc, .int .i64 x.val, .int .u32 x.ver, .int .u32 x.ref, .int .i64 x.new, .bool x.wr]) (.agg #[.int .i64 y.loc, .int .i64 y.val, .int .u32 y.ver, .int .u32 y.ref, .int .i64 y.new, .bool y.wr])).run Tryd.prog w = .ok (enB x y) w := by
  have hp : Tryd.prog.stoodInHeld 57 = false := by kernel_rfl
  have hp2 : Tryd.prog.stoodInHeld 48 = false := by kernel_rfl
  rw [run_equalIn_struct w 9999 _ _ _ (by kernel_rfl) hp]
  obtain ⟨x1, x2, x3, x4, x5, x6⟩ := x
  obtain ⟨y1, y2, y3, y4, y5, y6⟩ := y
  unfold enB
  by_cases h1 : x1 = y1
  · by_cases h2 : x2 = y2
    · by_cases h3 : x3 = y3
      · by_cases h4 : x4 = y4
        · by_cases h5 : x5 = y5
          · by_cases h6 : x6 = y6
            all_goals simp [Op.eqFields, Program.fieldsOf, Tryd.underlying57, Tryd.underlying48, go_sem, h1, h2, h3, h4, h5, h6, hp2]
          · simp [Op.eqFields, Program.fieldsOf, Tryd.underlying57, Tryd.underlying48, go_sem, h1, h2, h3, h4, h5, hp2]
        · simp [Op.eqFields, Program.fieldsOf, Tryd.underlying57, Tryd.underlying48, go_sem, h1, h2, h3, h4, hp2]
      · simp [Op.eqFields, Program.fieldsOf, Tryd.underlying57, Tryd.underlying48, go_sem, h1, h2, h3, hp2]
    · simp [Op.eqFields, Program.fieldsOf, Tryd.underlying57, Tryd.underlying48, go_sem, h1, h2, hp2]
  · simp [Op.eqFields, Program.fieldsOf, Tryd.underlying57, Tryd.underlying48, go_sem, h1, hp2]
theorem neq_entry (x y : En) (w : World) : (binOp .neq 57 (.agg #[.int .i64 x.loc, .int .i64 x.val, .int .u32 x.ver, .int .u32 x.ref, .int .i64 x.new, .bool x.wr]) (.agg #[.int .i64 y.loc, .int .i64 y.val, .int .u32 y.ver, .int .u32 y.ref, .int .i64 y.new, .bool y.wr])).run Tryd.prog w = .ok (.bool (!enB x y)) w := by
  rw [run_neq_struct, eqIn_entry]; rfl
theorem eq_entry (x y : En) (w : World) : (binOp .eql 57 (.agg #[.int .i64 x.loc, .int .i64 x.val, .int .u32 x.ver, .int .u32 x.ref, .int .i64 x.new, .bool x.wr]) (.agg #[.int .i64 y.loc, .int .i64 y.val, .int .u32 y.ver, .int .u32 y.ref, .int .i64 y.new, .bool y.wr])).run Tryd.prog w = .ok (.bool (enB x y)) w := by
  rw [run_eql_struct, eqIn_entry]; rfl
theorem eq_guard_entry (op : BinOp) (x y : Operand) (xs ys : Array Value) (w : World) : (eqGuard op 57 x y (.agg xs) (.agg ys)).run Tryd.prog w = .ok () w :=
  run_eqGuard_agg w op _ x y xs ys (by kernel_rfl)

/-- Plain: are the lists of entries equal? -/
def sameG (l k : List En) : Bool := (l.zip k).all (fun p => enB p.1 p.2)
def sameB (l k : List En) : Bool := decide (l.length = k.length) && sameG l k
theorem sameG_at {l k : List En} {j : Nat} {x y : En} (hx : l[j]? = some x) (hy : k[j]? = some y) : sameG (l.drop j) (k.drop j) = (enB x y && sameG (l.drop (j + 1)) (k.drop (j + 1))) := by
  obtain ⟨hj, hk⟩ := List.getElem?_eq_some_iff.1 hx
  obtain ⟨hj2, hk2⟩ := List.getElem?_eq_some_iff.1 hy
  rw [List.drop_eq_getElem_cons hj, List.drop_eq_getElem_cons hj2, hk, hk2]
  rfl
theorem sameB_iff (l k : List En) : sameB l k = true ↔ l = k := by
  have hg : ∀ (l k : List En), l.length = k.length → (sameG l k = true ↔ l = k) := by
    intro l
    induction l with
    | nil => intro k h; cases k with
      | nil => simp [sameG]
      | cons y r => simp at h
    | cons x r ih => intro k h; cases k with
      | nil => simp at h
      | cons y s =>
        have := ih s (by simpa using h)
        unfold sameG at this ⊢
        simp only [List.zip_cons_cons, List.all_cons, Bool.and_eq_true, enB_eq, List.cons.injEq]
        rw [this]
  unfold sameB
  rw [Bool.and_eq_true, decide_eq_true_eq]
  constructor
  · rintro ⟨h1, h2⟩; exact (hg l k h1).1 h2
  · rintro rfl; exact ⟨rfl, (hg l l rfl).2 rfl⟩

set_option maxRecDepth 100000 in
set_option maxHeartbeats 2000000 in
theorem same_any (l k : List En) (v vk : Value) (w : World) (hv : Es w v l) (hk : Es w vk k) :
    Calls Tryd.prog 15 #[v, vk] w fun y w' => y = .returned (.bool (sameB l k)) ∧ ∃ r, w' = ext w r := by
  have HV := hid hv
  have HK := hid hk
  have hna := neq_entry
  have hga := eq_guard_entry
  obtain ⟨a, c, rfl, ⟨hm, hlc⟩, _⟩ := hv
  obtain ⟨ak, ck, rfl, ⟨hmk, hlck⟩, _⟩ := hk
  by_cases hll : l.length = k.length
  · have H0 := hid (show sameB l k = sameG (l.drop 0) (k.drop 0) by unfold sameB; rw [decide_eq_true hll]; rfl)
    obtain ⟨n, hn⟩ : ∃ n, n = l.length := ⟨_, rfl⟩
    have HN := hid hn
    have hkn : k.length = n := by omega
    have HKN := hid hkn
    rw [hkn] at HK ⊢
    rw [← hn] at HV ⊢
    have hm9 : n ≤ 9223372036854775807 := by omega
    have hnn : ((n : Int) != (n : Int)) = false := by simp
    clear hn hkn hll hm hmk hlc hlck
    go_enter Tryd.func15, Tryd.ntmps15
    go_wp2_with fail
    go_loopw [5] (fun i wr => ∃ j : Nat, j ≤ n ∧ i = .int .i64 j ∧ Hid (sameB l k = sameG (l.drop j) (k.drop j)) ∧ ∃ r, wr = ext w r) (fun i _ => n - (intOf i).toNat)
    case atStart => exact ⟨0, by omega, rfl, H0, by (show Ext _ _; repeat (first | with_reducible (refine Hid.out ?_; assumption) | with_reducible exact Ext.refl _ | with_reducible refine Ext.ext ?_ _ | with_reducible refine Ext.alloc ?_ _ | refine Ext.drew ?_ | refine Ext.drewN ?_ _ | exact Ext.refl _))⟩
    case round =>
      clear H0
      obtain ⟨j, hj, rfl, H0, r, rfl⟩ := hrel
      by_cases hjn : j < n
      · have hd : decide (j < n) = true := decide_eq_true hjn
        have hjl : j < l.length := by have := HN.out; omega
        have hjk : j < k.length := by have := HKN.out; omega
        obtain ⟨hq0, b, o, hab, hbl, hcs⟩ := Sl.at HV.out (List.getElem?_eq_getElem hjl)
        obtain ⟨hq1, b1, o1, hab1, hbl1, hcs1⟩ := Sl.at HK.out (List.getElem?_eq_getElem hjk)
        have HX := hid (List.getElem?_eq_getElem hjl)
        have HY := hid (List.getElem?_eq_getElem hjk)
        generalize l[j] = x at HX hcs
        generalize k[j] = y at HY hcs1
        have HA := hid (sameG_at HX.out HY.out)
        subst hab hab1
        obtain ⟨x0, x1, x2, x3, x4, x5⟩ := x
        obtain ⟨y0, y1, y2, y3, y4, y5⟩ := y
        have p0 := hcs 0 (by omega)
        have p1 := hcs 1 (by omega)
        have p2 := hcs 2 (by omega)
        have p3 := hcs 3 (by omega)
        have p4 := hcs 4 (by omega)
        have p5 := hcs 5 (by omega)
        have q0 := hcs1 0 (by omega)
        have q1 := hcs1 1 (by omega)
        have q2 := hcs1 2 (by omega)
        have q3 := hcs1 3 (by omega)
        have q4 := hcs1 4 (by omega)
        have q5 := hcs1 5 (by omega)
        simp [enE] at p0 p1 p2 p3 p4 p5 q0 q1 q2 q3 q4 q5
        clear hcs hcs1 hq0 hq1 hjl hjk
        have hn1 := hna ⟨x0, x1, x2, x3, x4, x5⟩ ⟨y0, y1, y2, y3, y4, y5⟩
        dsimp only at hn1
        cases hb : enB ⟨x0, x1, x2, x3, x4, x5⟩ ⟨y0, y1, y2, y3, y4, y5⟩
        · have HF := hid (show sameB l k = false by rw [H0.out, HA.out, hb]; rfl)
          rw [hb] at hn1
          clear H0 HA hb
          go_wp2_with fail
          refine region_ext (by kernel_rfl) (by kernel_rfl) ?_
          repeat (go_big_quiet_step (fail))
          refine wpQuiet_nil ?_
          rintro _ ⟨r4, rfl⟩
          go_wp2_with fail
          go_ret
          exact ⟨ret_bool HF.out.symm, by (show Ext _ _; repeat (first | with_reducible (refine Hid.out ?_; assumption) | with_reducible exact Ext.refl _ | with_reducible refine Ext.ext ?_ _ | with_reducible refine Ext.alloc ?_ _ | refine Ext.drew ?_ | refine Ext.drewN ?_ _ | exact Ext.refl _))⟩
        · have HT := hid (show sameB l k = sameG (l.drop (j + 1)) (k.drop (j + 1)) by rw [H0.out, HA.out, hb]; rfl)
          rw [hb] at hn1
          clear H0 HA hb
          go_wp2_with fail
          refine region_ext (by kernel_rfl) (by kernel_rfl) ?_
          repeat (go_big_quiet_step (fail))
          refine wpQuiet_nil ?_
          rintro _ ⟨r4, rfl⟩
          go_wp2_with fail
          go_roundw
          case rel => exact ⟨j + 1, by omega, by go_num, HT, by (show Ext _ _; repeat (first | with_reducible (refine Hid.out ?_; assumption) | with_reducible exact Ext.refl _ | with_reducible refine Ext.ext ?_ _ | with_reducible refine Ext.alloc ?_ _ | refine Ext.drew ?_ | refine Ext.drewN ?_ _ | exact Ext.refl _))⟩
          case measure => simp [intOf]; omega
      · have hd : decide (j < n) = false := decide_eq_false hjn
        have HT := hid (show sameB l k = true by
          have := HN.out
          rw [H0.out, List.drop_eq_nil_of_le (by omega)]; rfl)
        clear H0
        go_wp2_with fail
        go_ret
        exact ⟨ret_bool HT.out.symm, by (show Ext _ _; repeat (first | with_reducible (refine Hid.out ?_; assumption) | with_reducible exact Ext.refl _ | with_reducible refine Ext.ext ?_ _ | with_reducible refine Ext.alloc ?_ _ | refine Ext.drew ?_ | refine Ext.drewN ?_ _ | exact Ext.refl _))⟩
  · have HF := hid (show sameB l k = false by unfold sameB; rw [decide_eq_false hll]; rfl)
    have hne : ((l.length : Int) != (k.length : Int)) = true := by simp; omega
    clear hll
    go_enter Tryd.func15, Tryd.ntmps15
    go_wp2_with fail
    go_ret
    exact ⟨ret_bool HF.out.symm, by (show Ext _ _; repeat (first | with_reducible (refine Hid.out ?_; assumption) | with_reducible exact Ext.refl _ | with_reducible refine Ext.ext ?_ _ | with_reducible refine Ext.alloc ?_ _ | refine Ext.drew ?_ | refine Ext.drewN ?_ _ | exact Ext.refl _))⟩

end Go.Proofs.YtojcojghnhibmaaDoor
