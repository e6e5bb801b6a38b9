/- Walks of package desc: Status, Pack, Field, and what check needs of slices.IsSortedFunc. -/
import Derived.Test.YtfijnpfhffhffaaDoorLayI
import Derived.Test.YtfijnpfhffhffaaDoorEntC
import Derived.Test.YtfijnpfhffhffaaDoorHeld
namespace Go.Proofs.YtfijnpfhffhffaaDoor
set_option linter.unusedSimpArgs false
set_option linter.unusedVariables false
open Go.RowKit

set_option maxHeartbeats 400000 in
theorem status_any (st seq : Int) (h0 : 0 ≤ seq) (h1 : seq ≤ 4294967295) (w : World) :
    Calls Tryd.prog 25 #[.int .i64 st, .int .i64 seq] w fun e w' => e = .returned (.agg #[.int .i64 st, .int .u32 seq, .int .u32 0]) ∧ ∃ r, w' = ext w r := by
  have hq : IntKind.u32.wrap seq = seq := wraps_u32w seq h0 (by omega)
  go_enter Tryd.func25, Tryd.ntmps25
  (repeat (first | go_values | go_skip | go_guarded | go_step | go_upon | (simp only [Int.not_lt, Int.not_le] at *; go_simp) | (go_ite <;> go_prune <;> (try go_simp))))
  exact bodyPost_ret (v := .agg #[.int .i64 st, .int .u32 seq, .int .u32 0]) (by simp [results, Tryd.results25, go_sem]) rfl ⟨rfl, by (show Ext _ _; repeat (first | with_reducible (refine Hid.out ?_; assumption) | with_reducible exact Ext.refl _ | with_reducible refine Ext.ext ?_ _ | with_reducible refine Ext.alloc ?_ _ | refine Ext.drew ?_ | refine Ext.drewN ?_ _ | refine Ext.setCell ?_ (by (try dsimp only); first | omega | (simp; done) | (simp; omega)) _))⟩

/-- Plain: the words of an entry. -/
def packW (e : En) : List Wd := [(e.loc, (if e.wr = true then 1 else 0), 0), (e.val, e.ver, 0), (e.new, 0, 0)]

set_option maxHeartbeats 1000000 in
theorem pack_any (loc val ver ref new : Int) (wr : Bool) (w : World) :
    Calls Tryd.prog 50 #[.agg #[.int .i64 loc, .int .i64 val, .int .u32 ver, .int .u32 ref, .int .i64 new, .bool wr]] w fun e w' =>
      e = .returned (.agg #[.int .i64 loc, .int .u32 (if wr = true then 1 else 0), .int .u32 0, .int .i64 val, .int .u32 ver, .int .u32 0, .int .i64 new, .int .u32 0, .int .u32 0]) ∧ ∃ r, w' = ext w r := by
  cases wr
  · go_enter Tryd.func50, Tryd.ntmps50
    (repeat (first | go_values | go_skip | go_guarded | go_step | go_upon | (simp only [Int.not_lt, Int.not_le] at *; go_simp) | (go_ite <;> go_prune <;> (try go_simp))))
    exact bodyPost_ret (v := .agg #[.int .i64 loc, .int .u32 0, .int .u32 0, .int .i64 val, .int .u32 ver, .int .u32 0, .int .i64 new, .int .u32 0, .int .u32 0]) (by simp [results, Tryd.results50, go_sem]) rfl ⟨rfl, by (show Ext _ _; repeat (first | with_reducible (refine Hid.out ?_; assumption) | with_reducible exact Ext.refl _ | with_reducible refine Ext.ext ?_ _ | with_reducible refine Ext.alloc ?_ _ | refine Ext.drew ?_ | refine Ext.drewN ?_ _ | refine Ext.setCell ?_ (by (try dsimp only); first | omega | (simp; done) | (simp; omega)) _))⟩
  · go_enter Tryd.func50, Tryd.ntmps50
    (repeat (first | go_values | go_skip | go_guarded | go_step | go_upon | (simp only [Int.not_lt, Int.not_le] at *; go_simp) | (go_ite <;> go_prune <;> (try go_simp))))
    exact bodyPost_ret (v := .agg #[.int .i64 loc, .int .u32 1, .int .u32 0, .int .i64 val, .int .u32 ver, .int .u32 0, .int .i64 new, .int .u32 0, .int .u32 0]) (by simp [results, Tryd.results50, go_sem]) rfl ⟨rfl, by (show Ext _ _; repeat (first | with_reducible (refine Hid.out ?_; assumption) | with_reducible exact Ext.refl _ | with_reducible refine Ext.ext ?_ _ | with_reducible refine Ext.alloc ?_ _ | refine Ext.drew ?_ | refine Ext.drewN ?_ _ | refine Ext.setCell ?_ (by (try dsimp only); first | omega | (simp; done) | (simp; omega)) _))⟩

theorem cmp_any (a b : En) (ha : 0 ≤ a.loc ∧ a.loc ≤ 4095) (hb : 0 ≤ b.loc ∧ b.loc ≤ 4095) (w : World) :
    Calls Tryd.prog 64 #[.agg #[.int .i64 a.loc, .int .i64 a.val, .int .u32 a.ver, .int .u32 a.ref, .int .i64 a.new, .bool a.wr], .agg #[.int .i64 b.loc, .int .i64 b.val, .int .u32 b.ver, .int .u32 b.ref, .int .i64 b.new, .bool b.wr]] w
      fun y w' => y = .returned (.int .i64 (a.loc - b.loc)) ∧ ∃ r, w' = ext w r := by
  obtain ⟨h0, h1⟩ := ha
  obtain ⟨h2, h3⟩ := hb
  go_enter Tryd.func64, Tryd.ntmps64
  go_wp2_with fail
  go_ret
  exact ⟨rfl, by (show Ext _ _; repeat (first | with_reducible (refine Hid.out ?_; assumption) | with_reducible exact Ext.refl _ | with_reducible refine Ext.ext ?_ _ | with_reducible refine Ext.alloc ?_ _ | refine Ext.drew ?_ | refine Ext.drewN ?_ _ | exact Ext.refl _))⟩

/-- Plain: are the entries 0 .. k in order? -/
def sortTo (es : List En) : Nat → Bool
  | 0 => true
  | k + 1 => (match es[k + 1]?, es[k]? with | some a, some b => decide (b.loc ≤ a.loc) | _, _ => true) && sortTo es k
def sortB (es : List En) : Bool := sortTo es (es.length - 1)

theorem sortTo_at {es : List En} {k : Nat} {a b : En} (ha : es[k + 1]? = some a) (hb : es[k]? = some b) : sortTo es (k + 1) = (decide (b.loc ≤ a.loc) && sortTo es k) := by
  simp only [sortTo, ha, hb]

set_option maxRecDepth 100000 in
set_option maxHeartbeats 1000000 in
theorem sorted_any (es : List En) (v : Value) (hok : ∀ e ∈ es, 0 ≤ e.loc ∧ e.loc ≤ 4095) (h32 : es.length ≤ 1000) (w : World) (hv : Es w v es) :
    Calls Tryd.prog 63 #[v, .func (.func 64) #[] #[]] w fun y w' => y = .returned (.bool (sortB es)) ∧ ∃ r, w' = ext w r := by
  have HV := hid hv
  have HO := hid hok
  obtain ⟨a, c, rfl, ⟨hm, hlc⟩, _⟩ := hv
  clear hok
  by_cases h0 : es.length = 0
  · have HE := hid (show sortB es = true by unfold sortB; rw [h0]; rfl)
    obtain ⟨n, hn⟩ : ∃ n, n = es.length := ⟨_, rfl⟩
    rw [← hn] at h0 ⊢
    subst h0
    clear hn
    go_enter Tryd.func63, Tryd.ntmps63
    go_wp2_with fail
    go_loopw [5] (fun i wr => i = .int .i64 (-1) ∧ ∃ r, wr = ext w r) (fun _ _ => 0)
    case atStart => exact ⟨rfl, by (show Ext _ _; repeat (first | with_reducible (refine Hid.out ?_; assumption) | with_reducible exact Ext.refl _ | with_reducible refine Ext.ext ?_ _ | with_reducible refine Ext.alloc ?_ _ | refine Ext.drew ?_ | refine Ext.drewN ?_ _ | exact Ext.refl _))⟩
    case round =>
      obtain ⟨rfl, r, rfl⟩ := hrel
      go_wp2_with fail
      go_ret
      exact ⟨ret_bool HE.out.symm, by (show Ext _ _; repeat (first | with_reducible (refine Hid.out ?_; assumption) | with_reducible exact Ext.refl _ | with_reducible refine Ext.ext ?_ _ | with_reducible refine Ext.alloc ?_ _ | refine Ext.drew ?_ | refine Ext.drewN ?_ _ | exact Ext.refl _))⟩
  · obtain ⟨n, hn⟩ : ∃ n, es.length = n + 1 := ⟨es.length - 1, by omega⟩
    have HN := hid hn
    have hnb : n ≤ 1000 := by omega
    rw [hn] at HV ⊢
    have HS := hid (show sortB es = sortTo es n by unfold sortB; rw [hn]; rfl)
    clear hn h0 hm hlc
    go_enter Tryd.func63, Tryd.ntmps63
    go_wp2_with fail
    go_loopw [5] (fun i wr => ∃ j : Nat, j ≤ n ∧ i = .int .i64 j ∧ Hid (sortB es = sortTo es j) ∧ ∃ r, wr = ext w r) (fun i _ => (intOf i).toNat)
    case atStart => exact ⟨n, Nat.le_refl _, by go_num, HS, by (show Ext _ _; repeat (first | with_reducible (refine Hid.out ?_; assumption) | with_reducible exact Ext.refl _ | with_reducible refine Ext.ext ?_ _ | with_reducible refine Ext.alloc ?_ _ | refine Ext.drew ?_ | refine Ext.drewN ?_ _ | exact Ext.refl _))⟩
    case round =>
      clear HS
      obtain ⟨j, hj, rfl, HS, r, rfl⟩ := hrel
      cases j with
      | zero =>
        have HT := hid (show sortB es = true from HS.out)
        go_wp2_with fail
        go_ret
        exact ⟨ret_bool HT.out.symm, by (show Ext _ _; repeat (first | with_reducible (refine Hid.out ?_; assumption) | with_reducible exact Ext.refl _ | with_reducible refine Ext.ext ?_ _ | with_reducible refine Ext.alloc ?_ _ | refine Ext.drew ?_ | refine Ext.drewN ?_ _ | exact Ext.refl _))⟩
      | succ k =>
        have hk1 : k + 1 < es.length := by have := HN.out; omega
        have hk0 : k < es.length := by omega
        obtain ⟨hn1, b, o, hab, hbl, hcs⟩ := Sl.at HV.out (List.getElem?_eq_getElem hk1)
        obtain ⟨hn2, b', o', hab', _, hcs'⟩ := Sl.at HV.out (List.getElem?_eq_getElem hk0)
        have HX := hid (List.getElem?_eq_getElem hk1)
        have HY := hid (List.getElem?_eq_getElem hk0)
        have hx := HO.out _ (List.getElem_mem hk1)
        have hy := HO.out _ (List.getElem_mem hk0)
        generalize es[k + 1] = x at hcs HX hx
        generalize es[k] = y at hcs' HY hy
        have HA := hid (sortTo_at HX.out HY.out)
        subst hab
        cases hab'
        obtain ⟨x0, x1, x2, x3, x4, x5⟩ := x
        obtain ⟨y0, y1, y2, y3, y4, y5⟩ := y
        have k0 := hcs 0 (by omega)
        have k1 := hcs 1 (by omega)
        have k2 := hcs 2 (by omega)
        have k3 := hcs 3 (by omega)
        have k4 := hcs 4 (by omega)
        have k5 := hcs 5 (by omega)
        have q0 := hcs' 0 (by omega)
        have q1 := hcs' 1 (by omega)
        have q2 := hcs' 2 (by omega)
        have q3 := hcs' 3 (by omega)
        have q4 := hcs' 4 (by omega)
        have q5 := hcs' 5 (by omega)
        simp [enE] at k0 k1 k2 k3 k4 k5 q0 q1 q2 q3 q4 q5
        clear hcs hcs' hn1 hn2
        have hi0 : (0 : Int) ≤ (k : Int) := by omega
        have hi1 : (k : Int) < (n : Int) + 1 := by omega
        have hi2 : (0 : Int) ≤ (k : Int) + 1 := by omega
        have hi3 : (k : Int) + 1 < (n : Int) + 1 := by omega
        have HA2 := hid (show sortB es = (decide (y0 ≤ x0) && sortTo es k) by rw [HS.out, HA.out])
        clear hk0 hk1 HS HA
        have hx' := hid hx
        have hy' := hid hy
        dsimp only at hx hy
        obtain ⟨hx0, hx1⟩ := hx
        obtain ⟨hy0, hy1⟩ := hy
        have hw1 : IntKind.i64.wrap ((k : Int) + 1 - 1) = (k : Int) := by rw [show (k : Int) + 1 - 1 = k by omega]; exact IntWalk.i64_in _ (by omega)
        have hw2 : ((k : Int) + 1).toNat = k + 1 := by omega
        by_cases hlt : x0 - y0 < 0
        · have HN := hid (show sortB es = false by rw [HA2.out, decide_eq_false (by omega)]; rfl)
          clear HA2
          go_wp2_with fail
          refine region_ext (by kernel_rfl) (by kernel_rfl) ?_
          repeat (go_big_quiet_step ((go_at_call 64; exact quiet_ext (cmp_any ⟨x0, x1, x2, x3, x4, x5⟩ ⟨y0, y1, y2, y3, y4, y5⟩ hx'.out hy'.out _))))
          refine wpQuiet_nil ?_
          rintro _ ⟨r4, rfl⟩
          go_wp2_with fail
          go_ret
          exact ⟨ret_bool HN.out.symm, by (show Ext _ _; repeat (first | with_reducible (refine Hid.out ?_; assumption) | with_reducible exact Ext.refl _ | with_reducible refine Ext.ext ?_ _ | with_reducible refine Ext.alloc ?_ _ | refine Ext.drew ?_ | refine Ext.drewN ?_ _ | exact Ext.refl _))⟩
        · have HN := hid (show sortB es = sortTo es k by rw [HA2.out, decide_eq_true (by omega)]; rfl)
          clear HA2
          go_wp2_with fail
          refine region_ext (by kernel_rfl) (by kernel_rfl) ?_
          repeat (go_big_quiet_step ((go_at_call 64; exact quiet_ext (cmp_any ⟨x0, x1, x2, x3, x4, x5⟩ ⟨y0, y1, y2, y3, y4, y5⟩ hx'.out hy'.out _))))
          refine wpQuiet_nil ?_
          rintro _ ⟨r4, rfl⟩
          clear hw1 hw2
          go_wp2_with fail
          go_roundw
          case rel => exact ⟨k, by omega, rfl, HN, by (show Ext _ _; repeat (first | with_reducible (refine Hid.out ?_; assumption) | with_reducible exact Ext.refl _ | with_reducible refine Ext.ext ?_ _ | with_reducible refine Ext.alloc ?_ _ | refine Ext.drew ?_ | refine Ext.drewN ?_ _ | exact Ext.refl _))⟩
          case measure => simp [intOf]

end Go.Proofs.YtfijnpfhffhffaaDoor
