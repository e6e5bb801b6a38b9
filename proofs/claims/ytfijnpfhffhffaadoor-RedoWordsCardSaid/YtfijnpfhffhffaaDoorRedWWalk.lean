/- The walk of the statement RedoWords. -/
import Derived.Test.YtfijnpfhffhffaaDoorC25A
import Derived.Test.YtfijnpfhffhffaaDoorRedE
import Derived.Test.YtfijnpfhffhffaaDoorRedK
import Derived.Test.YtfijnpfhffhffaaDoorRefW
import Derived.Deep.MidRow
namespace Go.Proofs.YtfijnpfhffhffaaDoor
set_option linter.unusedSimpArgs false
set_option linter.unusedVariables false
open Go.RowKit

theorem list3w {α : Type} {l : List α} (h : l.length = 3) : ∃ a b c, l = [a, b, c] := by
  match l, h with
  | [a, b, c], _ => exact ⟨a, b, c, rfl⟩
theorem list6w {α : Type} {l : List α} (h : l.length = 6) : ∃ a b c d e f, l = [a, b, c, d, e, f] := by
  match l, h with
  | [a, b, c, d, e, f], _ => exact ⟨a, b, c, d, e, f, rfl⟩

set_option maxHeartbeats 2000000 in
theorem same25w_any (A : List Wd) (av bv : Value) (hA : A.length ≤ 10000) (w : World) (ha : Sl w 3 wdE av A) (hb : Sl w 3 wdE bv A) :
    Calls Tryd.prog 11 #[av, bv] w fun y w' => y = .returned (.bool true) ∧ ∃ r, w' = ext w r := by
  have HA := hid ha
  have HB := hid hb
  obtain ⟨a, c, rfl, hm, hq⟩ := ha
  clear hm hq
  obtain ⟨b, d, rfl, hm, hq⟩ := hb
  clear hm hq
  obtain ⟨N, hN⟩ : ∃ N, N = A.length := ⟨_, rfl⟩
  rw [← hN] at HA HB hA ⊢
  have HN := hid hN.symm
  clear hN
  go_enter Tryd.func11, Tryd.ntmps11
  go_wp2_with fail
  go_loopw [5] (fun i wr => ∃ j : Nat, j ≤ N ∧ i = .int .i64 j ∧ Hid (Ext w wr)) (fun i _ => N - (intOf i).toNat)
  case atStart => exact ⟨0, by omega, rfl, hid (Ext.refl _)⟩
  case round =>
  obtain ⟨j, hj, rfl, HX⟩ := hrel
  by_cases hjn : j < N
  rotate_left
  · have hd : decide (j < N) = false := decide_eq_false hjn
    go_wp2_with fail
    go_ret
    exact ⟨rfl, HX.out.trans (by (show Ext _ _; repeat (first | with_reducible (refine Hid.out ?_; assumption) | with_reducible exact Ext.refl _ | with_reducible refine Ext.ext ?_ _ | with_reducible refine Ext.alloc ?_ _ | refine Ext.drew ?_ | refine Ext.drewN ?_ _ | exact Ext.refl _)))⟩
  have hd : decide (j < N) = true := decide_eq_true hjn
  have hji : (j : Int) < (N : Int) := by omega
  obtain ⟨⟨x1, x2, x3⟩, hx⟩ : ∃ x, A[j]? = some x := ⟨_, List.getElem?_eq_getElem (by rw [HN.out]; exact hjn)⟩
  obtain ⟨hq1, b1, o1, hab, hb1, hc1⟩ := Sl.at (HA.out.of wdE_len HX.out) hx
  obtain ⟨hq2, b2, o2, hab2, hb2, hc2⟩ := Sl.at (HB.out.of wdE_len HX.out) hx
  subst hab hab2
  clear hq1 hq2
  have p0 := hc1 0 (by omega)
  have p1 := hc1 1 (by omega)
  have p2 := hc1 2 (by omega)
  have q0 := hc2 0 (by omega)
  have q1 := hc2 1 (by omega)
  have q2 := hc2 2 (by omega)
  simp [wdE] at p0 p1 p2 q0 q1 q2
  have hne := neq_word x1 x2 x3 x1 x2 x3
  rw [wdB_self] at hne
  have hga := eq_guard_word
  clear hc1 hc2 hx
  go_upto_region 6 with fail
  refine wp_region_held_drew (S := fun w' => (w'.cell? ⟨b1, o1 + j * 3, none⟩ = some (.int .i64 x1) ∧ w'.cell? ⟨b1, o1 + j * 3 + 1, none⟩ = some (.int .u32 x2) ∧ w'.cell? ⟨b1, o1 + j * 3 + 2, none⟩ = some (.int .u32 x3)) ∧ (w'.cell? ⟨b2, o2 + j * 3, none⟩ = some (.int .i64 x1) ∧ w'.cell? ⟨b2, o2 + j * 3 + 1, none⟩ = some (.int .u32 x2) ∧ w'.cell? ⟨b2, o2 + j * 3 + 2, none⟩ = some (.int .u32 x3))) (by kernel_rfl) (by exact ⟨⟨(show Ext wr _ by (show Ext _ _; repeat (first | with_reducible (refine Hid.out ?_; assumption) | with_reducible exact Ext.refl _ | with_reducible refine Ext.ext ?_ _ | with_reducible refine Ext.alloc ?_ _ | with_reducible refine Ext.drew ?_ | with_reducible refine Ext.setCell ?_ (by (try dsimp only); first | omega | (simp; done) | (simp; omega)) _))).cell p0, (show Ext wr _ by (show Ext _ _; repeat (first | with_reducible (refine Hid.out ?_; assumption) | with_reducible exact Ext.refl _ | with_reducible refine Ext.ext ?_ _ | with_reducible refine Ext.alloc ?_ _ | with_reducible refine Ext.drew ?_ | with_reducible refine Ext.setCell ?_ (by (try dsimp only); first | omega | (simp; done) | (simp; omega)) _))).cell p1, (show Ext wr _ by (show Ext _ _; repeat (first | with_reducible (refine Hid.out ?_; assumption) | with_reducible exact Ext.refl _ | with_reducible refine Ext.ext ?_ _ | with_reducible refine Ext.alloc ?_ _ | with_reducible refine Ext.drew ?_ | with_reducible refine Ext.setCell ?_ (by (try dsimp only); first | omega | (simp; done) | (simp; omega)) _))).cell p2⟩, (show Ext wr _ by (show Ext _ _; repeat (first | with_reducible (refine Hid.out ?_; assumption) | with_reducible exact Ext.refl _ | with_reducible refine Ext.ext ?_ _ | with_reducible refine Ext.alloc ?_ _ | with_reducible refine Ext.drew ?_ | with_reducible refine Ext.setCell ?_ (by (try dsimp only); first | omega | (simp; done) | (simp; omega)) _))).cell q0, (show Ext wr _ by (show Ext _ _; repeat (first | with_reducible (refine Hid.out ?_; assumption) | with_reducible exact Ext.refl _ | with_reducible refine Ext.ext ?_ _ | with_reducible refine Ext.alloc ?_ _ | with_reducible refine Ext.drew ?_ | with_reducible refine Ext.setCell ?_ (by (try dsimp only); first | omega | (simp; done) | (simp; omega)) _))).cell q1, (show Ext wr _ by (show Ext _ _; repeat (first | with_reducible (refine Hid.out ?_; assumption) | with_reducible exact Ext.refl _ | with_reducible refine Ext.ext ?_ _ | with_reducible refine Ext.alloc ?_ _ | with_reducible refine Ext.drew ?_ | with_reducible refine Ext.setCell ?_ (by (try dsimp only); first | omega | (simp; done) | (simp; omega)) _))).cell q2⟩) (fun hHeld => ?_)
  refine take_met 0 (oi := ⟨_, _, _, _, _, _⟩) (v := ?_) (by kernel_rfl) rfl (by rfl) (fun _ _ _ h => h) (by assumption) ?_ ?_
  rotate_left 1
  · intro w hSw
    try dsimp only at hSw
    go_simp
    try with_reducible rfl
  (try simp only [Act.put, List.setIfInBounds_toArray, List.set_cons_zero, List.set_cons_succ])
  refine take_met 1 (oi := ⟨_, _, _, _, _, _⟩) (v := ?_) (by kernel_rfl) rfl (by rfl) (fun _ _ _ h => h) (by assumption) ?_ ?_
  rotate_left 1
  · intro w hSw
    try dsimp only at hSw
    go_simp
    try with_reducible rfl
  (try simp only [Act.put, List.setIfInBounds_toArray, List.set_cons_zero, List.set_cons_succ])
  refine take_met 2 (oi := ⟨_, _, _, _, _, _⟩) (v := ?_) (by kernel_rfl) rfl (by rfl) (fun _ _ _ h => h) (by assumption) ?_ ?_
  rotate_left 1
  · intro w hSw
    try dsimp only at hSw
    go_simp
    try with_reducible rfl
  (try simp only [Act.put, List.setIfInBounds_toArray, List.set_cons_zero, List.set_cons_succ])
  refine take_met 3 (oi := ⟨_, _, _, _, _, _⟩) (v := ?_) (by kernel_rfl) rfl (by rfl) (fun _ _ _ h => h) (by assumption) ?_ ?_
  rotate_left 1
  · intro w hSw
    try dsimp only at hSw
    go_simp
    try with_reducible rfl
  (try simp only [Act.put, List.setIfInBounds_toArray, List.set_cons_zero, List.set_cons_succ])
  refine take_met 4 (oi := ⟨_, _, _, _, _, _⟩) (v := ?_) (by kernel_rfl) rfl (by rfl) (fun _ _ _ h => h) (by assumption) ?_ ?_
  rotate_left 1
  · intro w hSw
    try dsimp only at hSw
    go_simp
    try with_reducible rfl
  (try simp only [Act.put, List.setIfInBounds_toArray, List.set_cons_zero, List.set_cons_succ])
  refine take_met 5 (oi := ⟨_, _, _, _, _, _⟩) (v := ?_) (by kernel_rfl) rfl (by rfl) (fun _ _ _ h => h) (by assumption) ?_ ?_
  rotate_left 1
  · intro w hSw
    try dsimp only at hSw
    go_simp
    try with_reducible rfl
  (try simp only [Act.put, List.setIfInBounds_toArray, List.set_cons_zero, List.set_cons_succ])
  refine take_met 6 (oi := ⟨_, _, _, _, _, _⟩) (v := ?_) (by kernel_rfl) rfl (by rfl) (fun _ _ _ h => h) (by assumption) ?_ ?_
  rotate_left 1
  · intro w hSw
    try dsimp only at hSw
    go_simp
    try with_reducible rfl
  (try simp only [Act.put, List.setIfInBounds_toArray, List.set_cons_zero, List.set_cons_succ])
  refine take_met 7 (oi := ⟨_, _, _, _, _, _⟩) (v := ?_) (by kernel_rfl) rfl (by rfl) (fun _ _ _ h => h) (by assumption) ?_ ?_
  rotate_left 1
  · intro w hSw
    try dsimp only at hSw
    go_simp
    try with_reducible rfl
  (try simp only [Act.put, List.setIfInBounds_toArray, List.set_cons_zero, List.set_cons_succ])
  refine take_met 8 (oi := ⟨_, _, _, _, _, _⟩) (v := ?_) (by kernel_rfl) rfl (by rfl) (fun _ _ _ h => h) (by assumption) ?_ ?_
  rotate_left 1
  · intro w hSw
    try dsimp only at hSw
    go_simp
    try with_reducible rfl
  (try simp only [Act.put, List.setIfInBounds_toArray, List.set_cons_zero, List.set_cons_succ])
  refine wpAnyH_done (by kernel_rfl) ?_ _
  go_wp2_with fail
  go_roundw
  case rel => exact ⟨j + 1, by omega, by go_num, hid (HX.out.trans (by (show Ext _ _; repeat (first | with_reducible (refine Hid.out ?_; assumption) | with_reducible exact Ext.refl _ | with_reducible refine Ext.ext ?_ _ | with_reducible refine Ext.alloc ?_ _ | refine Ext.drew ?_ | refine Ext.drewN ?_ _ | exact Ext.refl _))))⟩
  case measure => simp [intOf]; omega


/-- The cells of a block of eleven. -/
theorem Blk.eleven {w : World} {b : Nat} {x0 x1 x2 x3 x4 x5 x6 x7 x8 x9 x10 : Value} (h : Blk w b [x0, x1, x2, x3, x4, x5, x6, x7, x8, x9, x10]) : w.cell? ⟨b, 0, none⟩ = some x0 ∧ w.cell? ⟨b, 1, none⟩ = some x1 ∧ w.cell? ⟨b, 2, none⟩ = some x2 ∧ w.cell? ⟨b, 3, none⟩ = some x3 ∧ w.cell? ⟨b, 4, none⟩ = some x4 ∧ w.cell? ⟨b, 5, none⟩ = some x5 ∧ w.cell? ⟨b, 6, none⟩ = some x6 ∧ w.cell? ⟨b, 7, none⟩ = some x7 ∧ w.cell? ⟨b, 8, none⟩ = some x8 ∧ w.cell? ⟨b, 9, none⟩ = some x9 ∧ w.cell? ⟨b, 10, none⟩ = some x10 :=
  ⟨h.2.2 0 _ rfl, h.2.2 1 _ rfl, h.2.2 2 _ rfl, h.2.2 3 _ rfl, h.2.2 4 _ rfl, h.2.2 5 _ rfl, h.2.2 6 _ rfl, h.2.2 7 _ rfl, h.2.2 8 _ rfl, h.2.2 9 _ rfl, h.2.2 10 _ rfl⟩

section
variable (a0 a1 a2 a3 a4 a5 b0 b1 b2 b3 b4 b5 : Int) (o0 o1 o2 : Bool) (s0 s1 s2 w0 w1 w2 w3 w4 w5 : Int)
set_option maxRecDepth 100000 in
set_option maxHeartbeats 16000000 in
theorem redw_exp (hva : ∀ a ∈ [a0, a1, a2, a3, a4, a5], -128 ≤ a ∧ a ≤ 127) (hvb : ∀ a ∈ [b0, b1, b2, b3, b4, b5], 0 ≤ a ∧ a ≤ 255) (hst : ∀ a ∈ [s0, s1, s2], 0 ≤ a ∧ a ≤ 255) (how : ∀ a ∈ [w0, w1, w2, w3, w4, w5], -128 ≤ a ∧ a ≤ 127)
    (sv : Value) (sw : List Swp) (av nv : Value) (la : List Int) (ln : List Wd) (hla : ∀ a ∈ la, 0 ≤ a ∧ a ≤ 65535) (hln : ∀ a ∈ ln, WdOk a) (cut : Int) (hcu : 0 ≤ cut ∧ cut ≤ 65535) (w : World) (hs : Szs w) (hv : Sl w 1 swE sv sw) (hk : ∀ a ∈ sw, SwOk w a) (hav : Sl w 1 u16E av la) (hnv : Sl w 3 wdE nv ln) :
    Calls Tryd.prog 3 #[.agg #[.int .i8 a0, .int .i8 a1, .int .i8 a2, .int .i8 a3, .int .i8 a4, .int .i8 a5, .int .u8 b0, .int .u8 b1, .int .u8 b2, .int .u8 b3, .int .u8 b4, .int .u8 b5, sv, .bool o0, .bool o1, .bool o2, .int .u8 s0, .int .u8 s1, .int .u8 s2, .int .i8 w0, .int .i8 w1, .int .i8 w2, .int .i8 w3, .int .i8 w4, .int .i8 w5, av, nv], .int .u16 cut] w fun y w' => y = .returned (.bool true) ∧ ∃ r, w' = ext w r := by
  have HS := hid hs
  have HV := hid hv
  have HK := hid hk
  have HA := hid hva
  have HB := hid hvb
  have HSt := hid hst
  have HOw := hid how
  have HAv := hid hav
  have HNv := hid hnv
  have HLa := hid hla
  have HLn := hid hln
  obtain ⟨sa, sc, rfl, hm, hq⟩ := hv
  clear hm hq
  obtain ⟨aa, ac, rfl, hm, hq⟩ := hav
  clear hm hq
  obtain ⟨na, nc, rfl, hm, hq⟩ := hnv
  clear hm hq hs hk hva hvb hst how hla hln
  go_enter Tryd.func3, Tryd.ntmps3
  go_upto_region 1 with fail
  generalize hB0 : World.alloc _ _ = B0
  have HE0 := hid (show Ext w B0 by rw [← hB0]; (show Ext _ _; repeat (first | with_reducible (refine Hid.out ?_; assumption) | with_reducible exact Ext.refl _ | with_reducible refine Ext.ext ?_ _ | with_reducible refine Ext.alloc ?_ _ | refine Ext.drew ?_ | refine Ext.drewN ?_ _ | exact Ext.refl _)))
  have HC0 := hid (show Blk B0 w.heap.size [.int .i8 a0, .int .i8 a1, .int .i8 a2, .int .i8 a3, .int .i8 a4, .int .i8 a5, .int .u8 b0, .int .u8 b1, .int .u8 b2, .int .u8 b3, .int .u8 b4, .int .u8 b5, .slice sa sw.length sc, .bool o0, .bool o1, .bool o2, .int .u8 s0, .int .u8 s1, .int .u8 s2, .int .i8 w0, .int .i8 w1, .int .i8 w2, .int .i8 w3, .int .i8 w4, .int .i8 w5, .slice aa la.length ac, .slice na ln.length nc] by rw [← hB0]; (show Blk _ _ _; repeat (first | with_reducible (refine Hid.out ?_; assumption) | with_reducible refine Blk.drew ?_ | with_reducible refine Blk.ext ?_ _ | (with_reducible refine Blk.new _ _ rfl ?_; first | with_reducible rfl | (simp; done)) | with_reducible refine Blk.alloc ?_ _ | with_reducible assumption | with_reducible apply Blk.setE | (with_reducible refine Blk.other' ?_ ?_; first | omega | (simp; omega)) | (show List.set _ _ _ = _; exact rfl) | (show _ < List.length _; simp; done))))
  clear hB0
  go_wp2_with fail
  refine (awake25_any _ (HS.out.of (HE0.out.trans (by (show Ext _ _; repeat (first | with_reducible (refine Hid.out ?_; assumption) | with_reducible exact Ext.refl _ | with_reducible refine Ext.ext ?_ _ | with_reducible refine Ext.alloc ?_ _ | refine Ext.drew ?_ | refine Ext.drewN ?_ _ | exact Ext.refl _)))))).mono ?_
  rintro e w' ⟨rfl, r1, rfl⟩
  go_wp2_with (refine wpList_load_mid rfl 33 _ rfl w.heap.size 0 rfl [.int .i8 a0, .int .i8 a1, .int .i8 a2, .int .i8 a3, .int .i8 a4, .int .i8 a5, .int .u8 b0, .int .u8 b1, .int .u8 b2, .int .u8 b3, .int .u8 b4, .int .u8 b5, .slice sa sw.length sc, .bool o0, .bool o1, .bool o2, .int .u8 s0, .int .u8 s1, .int .u8 s2, .int .i8 w0, .int .i8 w1, .int .i8 w2, .int .i8 w3, .int .i8 w4, .int .i8 w5, .slice aa la.length ac, .slice na ln.length nc] _ (fun j v hv => by rw [Nat.zero_add]; exact (HC0.out.of (by (show Ext _ _; repeat (first | with_reducible (refine Hid.out ?_; assumption) | with_reducible exact Ext.refl _ | with_reducible refine Ext.ext ?_ _ | with_reducible refine Ext.alloc ?_ _ | refine Ext.drew ?_ | refine Ext.drewN ?_ _ | exact Ext.refl _)))).2.2 j v hv) Tryd.underlying33 rfl (by kernel_rfl) ?_)
  refine (words25_any a0 a1 a2 a3 a4 a5 b0 b1 b2 b3 b4 b5 o0 o1 o2 s0 s1 s2 w0 w1 w2 w3 w4 w5 HA.out HB.out HSt.out HOw.out _ sw _ _ la ln HLa.out HLn.out _ (HS.out.of (HE0.out.trans (by (show Ext _ _; repeat (first | with_reducible (refine Hid.out ?_; assumption) | with_reducible exact Ext.refl _ | with_reducible refine Ext.ext ?_ _ | with_reducible refine Ext.alloc ?_ _ | refine Ext.drew ?_ | refine Ext.drewN ?_ _ | exact Ext.refl _))))) (HV.out.of swE_len (HE0.out.trans (by (show Ext _ _; repeat (first | with_reducible (refine Hid.out ?_; assumption) | with_reducible exact Ext.refl _ | with_reducible refine Ext.ext ?_ _ | with_reducible refine Ext.alloc ?_ _ | refine Ext.drew ?_ | refine Ext.drewN ?_ _ | exact Ext.refl _))))) (fun a ha => (HK.out a ha).of (HE0.out.trans (by (show Ext _ _; repeat (first | with_reducible (refine Hid.out ?_; assumption) | with_reducible exact Ext.refl _ | with_reducible refine Ext.ext ?_ _ | with_reducible refine Ext.alloc ?_ _ | refine Ext.drew ?_ | refine Ext.drewN ?_ _ | exact Ext.refl _))))) (HAv.out.of u16E_len (HE0.out.trans (by (show Ext _ _; repeat (first | with_reducible (refine Hid.out ?_; assumption) | with_reducible exact Ext.refl _ | with_reducible refine Ext.ext ?_ _ | with_reducible refine Ext.alloc ?_ _ | refine Ext.drew ?_ | refine Ext.drewN ?_ _ | exact Ext.refl _))))) (HNv.out.of wdE_len (HE0.out.trans (by (show Ext _ _; repeat (first | with_reducible (refine Hid.out ?_; assumption) | with_reducible exact Ext.refl _ | with_reducible refine Ext.ext ?_ _ | with_reducible refine Ext.alloc ?_ _ | refine Ext.drew ?_ | refine Ext.drewN ?_ _ | exact Ext.refl _)))))).mono ?_
  rintro y w' ⟨⟨r2, rfl⟩, rfl | ⟨v3, L, rfl, hI, hv3⟩⟩
  · go_wp2_with fail
    go_ret
    exact ⟨rfl, HE0.out.trans (by (show Ext _ _; repeat (first | with_reducible (refine Hid.out ?_; assumption) | with_reducible exact Ext.refl _ | with_reducible refine Ext.ext ?_ _ | with_reducible refine Ext.alloc ?_ _ | refine Ext.drew ?_ | refine Ext.drewN ?_ _ | exact Ext.refl _)))⟩
  have hLl := hI.1
  have HLo := hid hI.2
  have hSL := Sl.of_own wdE_len hv3
  obtain ⟨g3, c3, rfl, _, _⟩ := Ws.open hv3 (by rw [hLl]; omega)
  rw [hLl] at hSL ⊢
  have HSL := hid (show Sl _ 3 wdE _ L from hSL)
  have HLl := hid hLl
  clear hSL hv3 hI hLl
  go_wp2_with fail
  refine (plan20_any _).mono ?_
  rintro e w' ⟨rfl, r3, rfl⟩
  go_wp2_with fail
  refine (kind25_any _ (HS.out.of (HE0.out.trans (by (show Ext _ _; repeat (first | with_reducible (refine Hid.out ?_; assumption) | with_reducible exact Ext.refl _ | with_reducible refine Ext.ext ?_ _ | with_reducible refine Ext.alloc ?_ _ | refine Ext.drew ?_ | refine Ext.drewN ?_ _ | exact Ext.refl _)))))).mono ?_
  rintro y w' ⟨pv, mv, sv2, ov, rfl, ⟨r4, rfl⟩, hpv, hmv, hsv2, hov⟩
  obtain ⟨ws, hws⟩ : ∃ ws, ws = mayL 3 8 1 416 := ⟨_, rfl⟩
  obtain ⟨ms, hms⟩ : ∃ ms, ms = maysL 3 8 1 := ⟨_, rfl⟩
  obtain ⟨ss, hss⟩ : ∃ ss, ss = statsL 3 8 1 := ⟨_, rfl⟩
  obtain ⟨os, hos⟩ : ∃ os, os = ownsL 3 8 1 := ⟨_, rfl⟩
  rw [← hws] at hpv
  rw [← hms] at hmv
  rw [← hss] at hsv2
  rw [← hos] at hov
  obtain ⟨X, hX⟩ : ∃ X, X = redoL 3 8 1 L := ⟨_, rfl⟩
  have HXe := hid hX
  have HXl := hid (show X.length = 416 by rw [hX]; exact redo31_len HLl.out)
  have HXo := hid (show ∀ a ∈ X, WdOk a by rw [hX]; exact redoL_ok 3 8 1 HLo.out)
  have HXc := hid (show cleanN 3 8 1 X = true by rw [hX]; exact redo31_clean HLl.out)
  have HRd := hid (show redoN 3 8 1 L = (X, 0) by rw [hX]; exact redo31 HLl.out)
  have HRf := hid (show redoW (rlogF 3 1 64 384 ws L) L ms ss os = X by rw [hX, hws, hms, hss, hos]; exact redo31_ref HLl.out HLo.out)
  obtain ⟨cb, hcb⟩ : ∃ cb, cb = cleanN 3 8 1 L := ⟨_, rfl⟩
  have HC1 := hid hcb.symm
  have HC2 := hid (show cleanW L ms ss os = cb by rw [hcb, hms, hss, hos]; exact (clean31 HLl.out).symm)
  have HMi := hid (show ∀ (j p : Nat), ms[j]? = some p → p < L.length by rw [HLl.out, hms]; exact mays31_lt)
  have HSi := hid (show ∀ (j p : Nat), ss[j]? = some p → p < L.length by rw [HLl.out, hss]; exact stats31_lt)
  have HOi := hid (show ∀ (j p : Nat), os[j]? = some p → p < L.length by rw [HLl.out, hos]; exact owns31_lt)
  have HLs := hid (show ms.length ≤ 10000 ∧ ss.length ≤ 10000 ∧ os.length ≤ 10000 by rw [hms, hss, hos]; exact lens31)
  clear hX hws hms hss hos hcb
  have HPv := hid hpv
  have HMv := hid hmv
  have HSv := hid hsv2
  have HOv := hid hov
  obtain ⟨pa, pc, rfl, hq, hq2⟩ := hpv
  clear hq hq2
  obtain ⟨ma, mc, rfl, hq, hq2⟩ := hmv
  clear hq hq2
  obtain ⟨sa2, sc2, rfl, hq, hq2⟩ := hsv2
  clear hq hq2
  obtain ⟨oa, oc, rfl, hq, hq2⟩ := hov
  clear hq hq2
  go_wp2_with fail
  refine (rwords_any 3 8 1 L _ HLo.out (by rw [HLl.out]; omega) _ (HS.out.of (HE0.out.trans (by (show Ext _ _; repeat (first | with_reducible (refine Hid.out ?_; assumption) | with_reducible exact Ext.refl _ | with_reducible refine Ext.ext ?_ _ | with_reducible refine Ext.alloc ?_ _ | refine Ext.drew ?_ | refine Ext.drewN ?_ _ | exact Ext.refl _))))) (HSL.out.of wdE_len (by (show Ext _ _; repeat (first | with_reducible (refine Hid.out ?_; assumption) | with_reducible exact Ext.refl _ | with_reducible refine Ext.ext ?_ _ | with_reducible refine Ext.alloc ?_ _ | refine Ext.drew ?_ | refine Ext.drewN ?_ _ | exact Ext.refl _))))).mono ?_
  rintro y w' ⟨v6, rfl, ⟨r5, rfl⟩, hv6⟩
  rw [HRd.out] at hv6
  have hr6 : (redoN 3 8 1 L).2 = 0 := by rw [HRd.out]
  rw [hr6]
  have hSX := Sl.of_own wdE_len hv6
  obtain ⟨g6, c6, rfl, _, _⟩ := Ws.open hv6 (by show 0 < X.length; rw [HXl.out]; omega)
  dsimp only at hSX ⊢
  rw [HXl.out] at hSX ⊢
  have HSX := hid (show Sl _ 3 wdE _ X from hSX)
  clear hSX hv6 hr6
  go_upto_region 9 with fail
  generalize hU : ext _ r5 = U at *
  have HEU := hid (HE0.out.trans (show Ext B0 U by rw [← hU]; (show Ext _ _; repeat (first | with_reducible (refine Hid.out ?_; assumption) | with_reducible exact Ext.refl _ | with_reducible refine Ext.ext ?_ _ | with_reducible refine Ext.alloc ?_ _ | refine Ext.drew ?_ | refine Ext.drewN ?_ _ | exact Ext.refl _))))
  have HBl := hid (show Blk U (B0.heap.size + r1.new.size + r2.new.size + r3.new.size) [.int .i64 3, .int .i64 8, .int .i64 1] by rw [← hU]; (show Blk _ _ _; repeat (first | with_reducible (refine Hid.out ?_; assumption) | with_reducible refine Blk.drew ?_ | with_reducible refine Blk.ext ?_ _ | (with_reducible refine Blk.new _ _ rfl ?_; first | with_reducible rfl | (simp; done)) | with_reducible refine Blk.alloc ?_ _ | with_reducible assumption | with_reducible apply Blk.setE | (with_reducible refine Blk.other' ?_ ?_; first | omega | (simp; omega)) | (show List.set _ _ _ = _; exact rfl) | (show _ < List.length _; simp; done))))
  have HBk := hid (show Blk U (B0.heap.size + r1.new.size + r2.new.size + r3.new.size + 1 + r4.new.size) [.int .i64 3, .int .i64 1, .int .i64 64, .int .i64 384, .int .i64 104, .int .i64 32, .slice pa ws.length pc, .int .i64 416, .slice ma ms.length mc, .slice sa2 ss.length sc2, .slice oa os.length oc] by rw [← hU]; (show Blk _ _ _; repeat (first | with_reducible (refine Hid.out ?_; assumption) | with_reducible refine Blk.drew ?_ | with_reducible refine Blk.ext ?_ _ | (with_reducible refine Blk.new _ _ rfl ?_; first | with_reducible rfl | (simp; done)) | with_reducible refine Blk.alloc ?_ _ | with_reducible assumption | with_reducible apply Blk.setE | (with_reducible refine Blk.other' ?_ ?_; first | omega | (simp; omega)) | (show List.set _ _ _ = _; exact rfl) | (show _ < List.length _; simp; done))))
  have HSLU := hid (HSL.out.of wdE_len (show Ext _ U by rw [← hU]; (show Ext _ _; repeat (first | with_reducible (refine Hid.out ?_; assumption) | with_reducible exact Ext.refl _ | with_reducible refine Ext.ext ?_ _ | with_reducible refine Ext.alloc ?_ _ | refine Ext.drew ?_ | refine Ext.drewN ?_ _ | exact Ext.refl _))))
  have HSXU := hid HSX.out
  have HPvU := hid (HPv.out.of boE_len (show Ext _ U by rw [← hU]; (show Ext _ _; repeat (first | with_reducible (refine Hid.out ?_; assumption) | with_reducible exact Ext.refl _ | with_reducible refine Ext.ext ?_ _ | with_reducible refine Ext.alloc ?_ _ | refine Ext.drew ?_ | refine Ext.drewN ?_ _ | exact Ext.refl _))))
  have HMvU := hid (HMv.out.of locE_len (show Ext _ U by rw [← hU]; (show Ext _ _; repeat (first | with_reducible (refine Hid.out ?_; assumption) | with_reducible exact Ext.refl _ | with_reducible refine Ext.ext ?_ _ | with_reducible refine Ext.alloc ?_ _ | refine Ext.drew ?_ | refine Ext.drewN ?_ _ | exact Ext.refl _))))
  have HSvU := hid (HSv.out.of locE_len (show Ext _ U by rw [← hU]; (show Ext _ _; repeat (first | with_reducible (refine Hid.out ?_; assumption) | with_reducible exact Ext.refl _ | with_reducible refine Ext.ext ?_ _ | with_reducible refine Ext.alloc ?_ _ | refine Ext.drew ?_ | refine Ext.drewN ?_ _ | exact Ext.refl _))))
  have HOvU := hid (HOv.out.of locE_len (show Ext _ U by rw [← hU]; (show Ext _ _; repeat (first | with_reducible (refine Hid.out ?_; assumption) | with_reducible exact Ext.refl _ | with_reducible refine Ext.ext ?_ _ | with_reducible refine Ext.alloc ?_ _ | refine Ext.drew ?_ | refine Ext.drewN ?_ _ | exact Ext.refl _))))
  generalize B0.heap.size + r1.new.size + r2.new.size + r3.new.size + 1 + r4.new.size = nk at *
  generalize B0.heap.size + r1.new.size + r2.new.size + r3.new.size = nl at *
  clear hU HSL HSX HPv HMv HSv HOv
  have e3 : (cb != cb) = false := by simp
  have HSU := hid (HS.out.of HEU.out)
  go_cut [58] (fun s58 wx => s58 = .bool false ∧ Ext U wx)
  case first =>
    refine wp_region_held_drew (S := fun w' => (w'.cell? ⟨nl, 0, none⟩ = some (.int .i64 3) ∧ w'.cell? ⟨nl, 1, none⟩ = some (.int .i64 8) ∧ w'.cell? ⟨nl, 2, none⟩ = some (.int .i64 1)) ∧ w'.cell? ⟨nk, 0, none⟩ = some (.int .i64 3) ∧ w'.cell? ⟨nk, 1, none⟩ = some (.int .i64 1) ∧ w'.cell? ⟨nk, 2, none⟩ = some (.int .i64 64) ∧ w'.cell? ⟨nk, 3, none⟩ = some (.int .i64 384) ∧ w'.cell? ⟨nk, 4, none⟩ = some (.int .i64 104) ∧ w'.cell? ⟨nk, 5, none⟩ = some (.int .i64 32) ∧ w'.cell? ⟨nk, 6, none⟩ = some (.slice pa ws.length pc) ∧ w'.cell? ⟨nk, 7, none⟩ = some (.int .i64 416) ∧ w'.cell? ⟨nk, 8, none⟩ = some (.slice ma ms.length mc) ∧ w'.cell? ⟨nk, 9, none⟩ = some (.slice sa2 ss.length sc2) ∧ w'.cell? ⟨nk, 10, none⟩ = some (.slice oa os.length oc)) (by kernel_rfl) (by exact ⟨(HBl.out.of (show Ext U _ by (show Ext _ _; repeat (first | with_reducible (refine Hid.out ?_; assumption) | with_reducible exact Ext.refl _ | with_reducible refine Ext.ext ?_ _ | with_reducible refine Ext.alloc ?_ _ | with_reducible refine Ext.drew ?_ | with_reducible refine Ext.setCell ?_ (by (try dsimp only); first | omega | (simp; done) | (simp; omega)) _)))).three, (HBk.out.of (show Ext U _ by (show Ext _ _; repeat (first | with_reducible (refine Hid.out ?_; assumption) | with_reducible exact Ext.refl _ | with_reducible refine Ext.ext ?_ _ | with_reducible refine Ext.alloc ?_ _ | with_reducible refine Ext.drew ?_ | with_reducible refine Ext.setCell ?_ (by (try dsimp only); first | omega | (simp; done) | (simp; omega)) _)))).eleven⟩) (fun hHeld => ?_)
    refine take_met 0 (oi := ⟨_, _, _, _, _, _⟩) (v := ?_) (by kernel_rfl) rfl (by rfl) (fun _ _ _ h => h) (by assumption) ?_ ?_
    rotate_left 1
    · intro w hSw
      try dsimp only at hSw
      go_simp
      try with_reducible rfl
    (try simp only [Act.put, List.setIfInBounds_toArray, List.set_cons_zero, List.set_cons_succ])
    refine take_met 1 (oi := ⟨_, _, _, _, _, _⟩) (v := ?_) (by kernel_rfl) rfl (by rfl) (fun _ _ _ h => h) (by assumption) ?_ ?_
    rotate_left 1
    · intro w hSw
      try dsimp only at hSw
      go_simp
      try with_reducible rfl
    (try simp only [Act.put, List.setIfInBounds_toArray, List.set_cons_zero, List.set_cons_succ])
    refine take_met 2 (oi := ⟨_, _, _, _, _, _⟩) (v := ?_) (by kernel_rfl) rfl (by rfl) (fun _ _ _ h => h) (by assumption) ?_ ?_
    rotate_left 1
    · intro w hSw
      try dsimp only at hSw
      go_simp
      try with_reducible rfl
    (try simp only [Act.put, List.setIfInBounds_toArray, List.set_cons_zero, List.set_cons_succ])
    refine take_met 3 (oi := ⟨_, _, _, _, _, _⟩) (v := ?_) (by kernel_rfl) rfl (by rfl) (fun _ _ _ h => h) (by assumption) ?_ ?_
    rotate_left 1
    · intro w hSw
      try dsimp only at hSw
      go_simp
      try with_reducible rfl
    (try simp only [Act.put, List.setIfInBounds_toArray, List.set_cons_zero, List.set_cons_succ])
    refine take_met 4 (oi := ⟨_, _, _, _, _, _⟩) (v := ?_) (by kernel_rfl) rfl (by rfl) (fun _ _ _ h => h) (by assumption) ?_ ?_
    rotate_left 1
    · intro w hSw
      try dsimp only at hSw
      go_simp
      try with_reducible rfl
    (try simp only [Act.put, List.setIfInBounds_toArray, List.set_cons_zero, List.set_cons_succ])
    refine take_met 5 (oi := ⟨_, _, _, _, _, _⟩) (v := ?_) (by kernel_rfl) rfl (by rfl) (fun _ _ _ h => h) (by assumption) ?_ ?_
    rotate_left 1
    · intro w hSw
      try dsimp only at hSw
      go_simp
      try with_reducible rfl
    (try simp only [Act.put, List.setIfInBounds_toArray, List.set_cons_zero, List.set_cons_succ])
    refine take_only 6 (oi := ⟨_, _, _, _, _, _⟩) (by kernel_rfl) rfl (fun K hK => ?_)
    go_simp
    first
      | (go_at_call 12; refine (refwords_any 3 1 64 384 416 (by omega) (by omega) (by omega) (by omega) ws _ _ _ _ L _ HLo.out (by rw [HLl.out]; omega) (by rw [HLl.out]; omega) (fun who _ _ h => by rw [HLl.out]; exact room31 who h) ms ss os HMi.out HSi.out HOi.out HLs.out.1 HLs.out.2.1 HLs.out.2.2 _ (HPvU.out.of boE_len (by (show Ext _ _; repeat (first | with_reducible (refine Hid.out ?_; assumption) | with_reducible exact Ext.refl _ | with_reducible refine Ext.ext ?_ _ | with_reducible refine Ext.alloc ?_ _ | with_reducible refine Ext.drew ?_ | with_reducible refine Ext.setCell ?_ (by (try dsimp only); first | omega | (simp; done) | (simp; omega)) _)))) (HMvU.out.of locE_len (by (show Ext _ _; repeat (first | with_reducible (refine Hid.out ?_; assumption) | with_reducible exact Ext.refl _ | with_reducible refine Ext.ext ?_ _ | with_reducible refine Ext.alloc ?_ _ | with_reducible refine Ext.drew ?_ | with_reducible refine Ext.setCell ?_ (by (try dsimp only); first | omega | (simp; done) | (simp; omega)) _)))) (HSvU.out.of locE_len (by (show Ext _ _; repeat (first | with_reducible (refine Hid.out ?_; assumption) | with_reducible exact Ext.refl _ | with_reducible refine Ext.ext ?_ _ | with_reducible refine Ext.alloc ?_ _ | with_reducible refine Ext.drew ?_ | with_reducible refine Ext.setCell ?_ (by (try dsimp only); first | omega | (simp; done) | (simp; omega)) _)))) (HOvU.out.of locE_len (by (show Ext _ _; repeat (first | with_reducible (refine Hid.out ?_; assumption) | with_reducible exact Ext.refl _ | with_reducible refine Ext.ext ?_ _ | with_reducible refine Ext.alloc ?_ _ | with_reducible refine Ext.drew ?_ | with_reducible refine Ext.setCell ?_ (by (try dsimp only); first | omega | (simp; done) | (simp; omega)) _)))) (HSLU.out.of wdE_len (by (show Ext _ _; repeat (first | with_reducible (refine Hid.out ?_; assumption) | with_reducible exact Ext.refl _ | with_reducible refine Ext.ext ?_ _ | with_reducible refine Ext.alloc ?_ _ | with_reducible refine Ext.drew ?_ | with_reducible refine Ext.setCell ?_ (by (try dsimp only); first | omega | (simp; done) | (simp; omega)) _))))).mono ?_; rintro y w' ⟨v7, rfl, ⟨r7, rfl⟩, hv7⟩; rw [HRf.out] at hv7; (try rw [drew_ext] at hv7); have HV7 := hid (Sl.of_own wdE_len hv7); clear hv7)
    have hOld := hHeld
    clear hHeld
    refine hK.out _ _ (by exact ⟨(HBl.out.of (show Ext U _ by (show Ext _ _; repeat (first | with_reducible (refine Hid.out ?_; assumption) | with_reducible exact Ext.refl _ | with_reducible refine Ext.ext ?_ _ | with_reducible refine Ext.alloc ?_ _ | with_reducible refine Ext.drew ?_ | with_reducible refine Ext.setCell ?_ (by (try dsimp only); first | omega | (simp; done) | (simp; omega)) _)))).three, (HBk.out.of (show Ext U _ by (show Ext _ _; repeat (first | with_reducible (refine Hid.out ?_; assumption) | with_reducible exact Ext.refl _ | with_reducible refine Ext.ext ?_ _ | with_reducible refine Ext.alloc ?_ _ | with_reducible refine Ext.drew ?_ | with_reducible refine Ext.setCell ?_ (by (try dsimp only); first | omega | (simp; done) | (simp; omega)) _)))).eleven⟩) (fun hHeld => ?_)
    clear hOld hK K
    (try simp only [Act.put, List.setIfInBounds_toArray, List.set_cons_zero, List.set_cons_succ])
    refine take_only 7 (oi := ⟨_, _, _, _, _, _⟩) (by kernel_rfl) rfl (fun K hK => ?_)
    go_simp
    first
      | (go_at_call 11; refine (same25w_any X _ _ (by rw [HXl.out]; omega) _ (HSXU.out.of wdE_len (by (show Ext _ _; repeat (first | with_reducible (refine Hid.out ?_; assumption) | with_reducible exact Ext.refl _ | with_reducible refine Ext.ext ?_ _ | with_reducible refine Ext.alloc ?_ _ | with_reducible refine Ext.drew ?_ | with_reducible refine Ext.setCell ?_ (by (try dsimp only); first | omega | (simp; done) | (simp; omega)) _)))) (HV7.out.of wdE_len (by (show Ext _ _; repeat (first | with_reducible (refine Hid.out ?_; assumption) | with_reducible exact Ext.refl _ | with_reducible refine Ext.ext ?_ _ | with_reducible refine Ext.alloc ?_ _ | with_reducible refine Ext.drew ?_ | with_reducible refine Ext.setCell ?_ (by (try dsimp only); first | omega | (simp; done) | (simp; omega)) _))))).mono ?_; rintro e w' ⟨rfl, r8, rfl⟩)
    have hOld := hHeld
    clear hHeld
    refine hK.out _ _ (by exact ⟨(HBl.out.of (show Ext U _ by (show Ext _ _; repeat (first | with_reducible (refine Hid.out ?_; assumption) | with_reducible exact Ext.refl _ | with_reducible refine Ext.ext ?_ _ | with_reducible refine Ext.alloc ?_ _ | with_reducible refine Ext.drew ?_ | with_reducible refine Ext.setCell ?_ (by (try dsimp only); first | omega | (simp; done) | (simp; omega)) _)))).three, (HBk.out.of (show Ext U _ by (show Ext _ _; repeat (first | with_reducible (refine Hid.out ?_; assumption) | with_reducible exact Ext.refl _ | with_reducible refine Ext.ext ?_ _ | with_reducible refine Ext.alloc ?_ _ | with_reducible refine Ext.drew ?_ | with_reducible refine Ext.setCell ?_ (by (try dsimp only); first | omega | (simp; done) | (simp; omega)) _)))).eleven⟩) (fun hHeld => ?_)
    clear hOld hK K
    (try simp only [Act.put, List.setIfInBounds_toArray, List.set_cons_zero, List.set_cons_succ])
    refine take_met 8 (oi := ⟨_, _, _, _, _, _⟩) (v := ?_) (by kernel_rfl) rfl (by rfl) (fun _ _ _ h => h) (by assumption) ?_ ?_
    rotate_left 1
    · intro w hSw
      try dsimp only at hSw
      go_simp
      try with_reducible rfl
    (try simp only [Act.put, List.setIfInBounds_toArray, List.set_cons_zero, List.set_cons_succ])
    refine take_met 9 (oi := ⟨_, _, _, _, _, _⟩) (v := ?_) (by kernel_rfl) rfl (by rfl) (fun _ _ _ h => h) (by assumption) ?_ ?_
    rotate_left 1
    · intro w hSw
      try dsimp only at hSw
      go_simp
      try with_reducible rfl
    (try simp only [Act.put, List.setIfInBounds_toArray, List.set_cons_zero, List.set_cons_succ])
    refine take_met 10 (oi := ⟨_, _, _, _, _, _⟩) (v := ?_) (by kernel_rfl) rfl (by rfl) (fun _ _ _ h => h) (by assumption) ?_ ?_
    rotate_left 1
    · intro w hSw
      try dsimp only at hSw
      go_simp
      try with_reducible rfl
    (try simp only [Act.put, List.setIfInBounds_toArray, List.set_cons_zero, List.set_cons_succ])
    refine take_met 11 (oi := ⟨_, _, _, _, _, _⟩) (v := ?_) (by kernel_rfl) rfl (by rfl) (fun _ _ _ h => h) (by assumption) ?_ ?_
    rotate_left 1
    · intro w hSw
      try dsimp only at hSw
      go_simp
      try with_reducible rfl
    (try simp only [Act.put, List.setIfInBounds_toArray, List.set_cons_zero, List.set_cons_succ])
    refine take_met 12 (oi := ⟨_, _, _, _, _, _⟩) (v := ?_) (by kernel_rfl) rfl (by rfl) (fun _ _ _ h => h) (by assumption) ?_ ?_
    rotate_left 1
    · intro w hSw
      try dsimp only at hSw
      go_simp
      try with_reducible rfl
    (try simp only [Act.put, List.setIfInBounds_toArray, List.set_cons_zero, List.set_cons_succ])
    refine take_met 14 (oi := ⟨_, _, _, _, _, _⟩) (v := ?_) (by kernel_rfl) rfl (by rfl) (fun _ _ _ h => h) (by assumption) ?_ ?_
    rotate_left 1
    · intro w hSw
      try dsimp only at hSw
      go_simp
      try with_reducible rfl
    (try simp only [Act.put, List.setIfInBounds_toArray, List.set_cons_zero, List.set_cons_succ])
    refine take_met 15 (oi := ⟨_, _, _, _, _, _⟩) (v := ?_) (by kernel_rfl) rfl (by rfl) (fun _ _ _ h => h) (by assumption) ?_ ?_
    rotate_left 1
    · intro w hSw
      try dsimp only at hSw
      go_simp
      try with_reducible rfl
    (try simp only [Act.put, List.setIfInBounds_toArray, List.set_cons_zero, List.set_cons_succ])
    refine take_only 13 (oi := ⟨_, _, _, _, _, _⟩) (by kernel_rfl) rfl (fun K hK => ?_)
    go_simp
    first
      | (go_at_call 13; refine (rclean_any 3 8 1 L _ (by rw [HLl.out]; omega) _ (HSU.out.of (by (show Ext _ _; repeat (first | with_reducible (refine Hid.out ?_; assumption) | with_reducible exact Ext.refl _ | with_reducible refine Ext.ext ?_ _ | with_reducible refine Ext.alloc ?_ _ | with_reducible refine Ext.drew ?_ | with_reducible refine Ext.setCell ?_ (by (try dsimp only); first | omega | (simp; done) | (simp; omega)) _)))) (HSLU.out.of wdE_len (by (show Ext _ _; repeat (first | with_reducible (refine Hid.out ?_; assumption) | with_reducible exact Ext.refl _ | with_reducible refine Ext.ext ?_ _ | with_reducible refine Ext.alloc ?_ _ | with_reducible refine Ext.drew ?_ | with_reducible refine Ext.setCell ?_ (by (try dsimp only); first | omega | (simp; done) | (simp; omega)) _))))).mono ?_; rintro e w' ⟨rfl, r9, rfl⟩; rw [HC1.out])
    have hOld := hHeld
    clear hHeld
    refine hK.out _ _ (by exact ⟨(HBl.out.of (show Ext U _ by (show Ext _ _; repeat (first | with_reducible (refine Hid.out ?_; assumption) | with_reducible exact Ext.refl _ | with_reducible refine Ext.ext ?_ _ | with_reducible refine Ext.alloc ?_ _ | with_reducible refine Ext.drew ?_ | with_reducible refine Ext.setCell ?_ (by (try dsimp only); first | omega | (simp; done) | (simp; omega)) _)))).three, (HBk.out.of (show Ext U _ by (show Ext _ _; repeat (first | with_reducible (refine Hid.out ?_; assumption) | with_reducible exact Ext.refl _ | with_reducible refine Ext.ext ?_ _ | with_reducible refine Ext.alloc ?_ _ | with_reducible refine Ext.drew ?_ | with_reducible refine Ext.setCell ?_ (by (try dsimp only); first | omega | (simp; done) | (simp; omega)) _)))).eleven⟩) (fun hHeld => ?_)
    clear hOld hK K
    (try simp only [Act.put, List.setIfInBounds_toArray, List.set_cons_zero, List.set_cons_succ])
    refine take_only 16 (oi := ⟨_, _, _, _, _, _⟩) (by kernel_rfl) rfl (fun K hK => ?_)
    go_simp
    first
      | (go_at_call 14; refine (refclean_any 3 1 64 384 416 ws _ _ _ _ L _ (by rw [HLl.out]; omega) ms ss os HMi.out HSi.out HOi.out HLs.out.1 HLs.out.2.1 HLs.out.2.2 _ (HPvU.out.of boE_len (by (show Ext _ _; repeat (first | with_reducible (refine Hid.out ?_; assumption) | with_reducible exact Ext.refl _ | with_reducible refine Ext.ext ?_ _ | with_reducible refine Ext.alloc ?_ _ | with_reducible refine Ext.drew ?_ | with_reducible refine Ext.setCell ?_ (by (try dsimp only); first | omega | (simp; done) | (simp; omega)) _)))) (HMvU.out.of locE_len (by (show Ext _ _; repeat (first | with_reducible (refine Hid.out ?_; assumption) | with_reducible exact Ext.refl _ | with_reducible refine Ext.ext ?_ _ | with_reducible refine Ext.alloc ?_ _ | with_reducible refine Ext.drew ?_ | with_reducible refine Ext.setCell ?_ (by (try dsimp only); first | omega | (simp; done) | (simp; omega)) _)))) (HSvU.out.of locE_len (by (show Ext _ _; repeat (first | with_reducible (refine Hid.out ?_; assumption) | with_reducible exact Ext.refl _ | with_reducible refine Ext.ext ?_ _ | with_reducible refine Ext.alloc ?_ _ | with_reducible refine Ext.drew ?_ | with_reducible refine Ext.setCell ?_ (by (try dsimp only); first | omega | (simp; done) | (simp; omega)) _)))) (HOvU.out.of locE_len (by (show Ext _ _; repeat (first | with_reducible (refine Hid.out ?_; assumption) | with_reducible exact Ext.refl _ | with_reducible refine Ext.ext ?_ _ | with_reducible refine Ext.alloc ?_ _ | with_reducible refine Ext.drew ?_ | with_reducible refine Ext.setCell ?_ (by (try dsimp only); first | omega | (simp; done) | (simp; omega)) _)))) (HSLU.out.of wdE_len (by (show Ext _ _; repeat (first | with_reducible (refine Hid.out ?_; assumption) | with_reducible exact Ext.refl _ | with_reducible refine Ext.ext ?_ _ | with_reducible refine Ext.alloc ?_ _ | with_reducible refine Ext.drew ?_ | with_reducible refine Ext.setCell ?_ (by (try dsimp only); first | omega | (simp; done) | (simp; omega)) _))))).mono ?_; rintro e w' ⟨rfl, r10, rfl⟩; rw [HC2.out])
    have hOld := hHeld
    clear hHeld
    refine hK.out _ _ (by exact ⟨(HBl.out.of (show Ext U _ by (show Ext _ _; repeat (first | with_reducible (refine Hid.out ?_; assumption) | with_reducible exact Ext.refl _ | with_reducible refine Ext.ext ?_ _ | with_reducible refine Ext.alloc ?_ _ | with_reducible refine Ext.drew ?_ | with_reducible refine Ext.setCell ?_ (by (try dsimp only); first | omega | (simp; done) | (simp; omega)) _)))).three, (HBk.out.of (show Ext U _ by (show Ext _ _; repeat (first | with_reducible (refine Hid.out ?_; assumption) | with_reducible exact Ext.refl _ | with_reducible refine Ext.ext ?_ _ | with_reducible refine Ext.alloc ?_ _ | with_reducible refine Ext.drew ?_ | with_reducible refine Ext.setCell ?_ (by (try dsimp only); first | omega | (simp; done) | (simp; omega)) _)))).eleven⟩) (fun hHeld => ?_)
    clear hOld hK K
    (try simp only [Act.put, List.setIfInBounds_toArray, List.set_cons_zero, List.set_cons_succ])
    refine take_met 17 (oi := ⟨_, _, _, _, _, _⟩) (v := ?_) (by kernel_rfl) rfl (by rfl) (fun _ _ _ h => h) (by assumption) ?_ ?_
    rotate_left 1
    · intro w hSw
      try dsimp only at hSw
      go_simp
      try with_reducible rfl
    (try simp only [Act.put, List.setIfInBounds_toArray, List.set_cons_zero, List.set_cons_succ])
    refine take_met 18 (oi := ⟨_, _, _, _, _, _⟩) (v := ?_) (by kernel_rfl) rfl (by rfl) (fun _ _ _ h => h) (by assumption) ?_ ?_
    rotate_left 1
    · intro w hSw
      try dsimp only at hSw
      go_simp
      try with_reducible rfl
    (try simp only [Act.put, List.setIfInBounds_toArray, List.set_cons_zero, List.set_cons_succ])
    refine take_met 19 (oi := ⟨_, _, _, _, _, _⟩) (v := ?_) (by kernel_rfl) rfl (by rfl) (fun _ _ _ h => h) (by assumption) ?_ ?_
    rotate_left 1
    · intro w hSw
      try dsimp only at hSw
      go_simp
      try with_reducible rfl
    (try simp only [Act.put, List.setIfInBounds_toArray, List.set_cons_zero, List.set_cons_succ])
    refine take_met 20 (oi := ⟨_, _, _, _, _, _⟩) (v := ?_) (by kernel_rfl) rfl (by rfl) (fun _ _ _ h => h) (by assumption) ?_ ?_
    rotate_left 1
    · intro w hSw
      try dsimp only at hSw
      go_simp
      try with_reducible rfl
    (try simp only [Act.put, List.setIfInBounds_toArray, List.set_cons_zero, List.set_cons_succ])
    refine take_met 21 (oi := ⟨_, _, _, _, _, _⟩) (v := ?_) (by kernel_rfl) rfl (by rfl) (fun _ _ _ h => h) (by assumption) ?_ ?_
    rotate_left 1
    · intro w hSw
      try dsimp only at hSw
      go_simp
      try with_reducible rfl
    (try simp only [Act.put, List.setIfInBounds_toArray, List.set_cons_zero, List.set_cons_succ])
    refine take_only 22 (oi := ⟨_, _, _, _, _, _⟩) (by kernel_rfl) rfl (fun K hK => ?_)
    go_simp
    first
      | (go_at_call 13; refine (rclean_any 3 8 1 X _ (by rw [HXl.out]; omega) _ (HSU.out.of (by (show Ext _ _; repeat (first | with_reducible (refine Hid.out ?_; assumption) | with_reducible exact Ext.refl _ | with_reducible refine Ext.ext ?_ _ | with_reducible refine Ext.alloc ?_ _ | with_reducible refine Ext.drew ?_ | with_reducible refine Ext.setCell ?_ (by (try dsimp only); first | omega | (simp; done) | (simp; omega)) _)))) (HSXU.out.of wdE_len (by (show Ext _ _; repeat (first | with_reducible (refine Hid.out ?_; assumption) | with_reducible exact Ext.refl _ | with_reducible refine Ext.ext ?_ _ | with_reducible refine Ext.alloc ?_ _ | with_reducible refine Ext.drew ?_ | with_reducible refine Ext.setCell ?_ (by (try dsimp only); first | omega | (simp; done) | (simp; omega)) _))))).mono ?_; rintro e w' ⟨rfl, r11, rfl⟩; rw [HXc.out])
    have hOld := hHeld
    clear hHeld
    refine hK.out _ _ (by exact ⟨(HBl.out.of (show Ext U _ by (show Ext _ _; repeat (first | with_reducible (refine Hid.out ?_; assumption) | with_reducible exact Ext.refl _ | with_reducible refine Ext.ext ?_ _ | with_reducible refine Ext.alloc ?_ _ | with_reducible refine Ext.drew ?_ | with_reducible refine Ext.setCell ?_ (by (try dsimp only); first | omega | (simp; done) | (simp; omega)) _)))).three, (HBk.out.of (show Ext U _ by (show Ext _ _; repeat (first | with_reducible (refine Hid.out ?_; assumption) | with_reducible exact Ext.refl _ | with_reducible refine Ext.ext ?_ _ | with_reducible refine Ext.alloc ?_ _ | with_reducible refine Ext.drew ?_ | with_reducible refine Ext.setCell ?_ (by (try dsimp only); first | omega | (simp; done) | (simp; omega)) _)))).eleven⟩) (fun hHeld => ?_)
    clear hOld hK K
    (try simp only [Act.put, List.setIfInBounds_toArray, List.set_cons_zero, List.set_cons_succ])
    refine take_met 23 (oi := ⟨_, _, _, _, _, _⟩) (v := ?_) (by kernel_rfl) rfl (by rfl) (fun _ _ _ h => h) (by assumption) ?_ ?_
    rotate_left 1
    · intro w hSw
      try dsimp only at hSw
      go_simp
      try with_reducible rfl
    (try simp only [Act.put, List.setIfInBounds_toArray, List.set_cons_zero, List.set_cons_succ])
    refine take_met 24 (oi := ⟨_, _, _, _, _, _⟩) (v := ?_) (by kernel_rfl) rfl (by rfl) (fun _ _ _ h => h) (by assumption) ?_ ?_
    rotate_left 1
    · intro w hSw
      try dsimp only at hSw
      go_simp
      try with_reducible rfl
    (try simp only [Act.put, List.setIfInBounds_toArray, List.set_cons_zero, List.set_cons_succ])
    refine wpAnyH_done (by kernel_rfl) ?_ _
    go_wp2_with fail
    go_meet
    exact ⟨rfl, by (show Ext _ _; repeat (first | with_reducible (refine Hid.out ?_; assumption) | with_reducible exact Ext.refl _ | with_reducible refine Ext.ext ?_ _ | with_reducible refine Ext.alloc ?_ _ | with_reducible refine Ext.drew ?_ | with_reducible refine Ext.setCell ?_ (by (try dsimp only); first | omega | (simp; done) | (simp; omega)) _))⟩
  case rest =>
  obtain ⟨rfl, hcut⟩ := hcut
  have HXU := hid hcut
  have HXw := hid (HEU.out.trans HXU.out)
  clear hcut e3
  obtain ⟨k, hk⟩ : ∃ k : Nat, cut % 416 = (k : Int) := ⟨(cut % 416).toNat, by omega⟩
  have hk4 : k < 416 := by omega
  have hk4i : (k : Int) ≤ 416 := by omega
  have hc16 : 416 ≤ c3 := by
    obtain ⟨_, _, hv, hm, _⟩ := HSLU.out
    simp only [Value.slice.injEq] at hv
    have := hm.2
    rw [HLl.out] at this
    omega
  have hkc : k ≤ c3 := by omega
  obtain ⟨l0, l1, l2⟩ := (HBl.out.of HXU.out).three
  have l4 := (HBl.out.of HXU.out).1
  obtain ⟨F, hF⟩ : ∃ F, F = L.take k := ⟨_, rfl⟩
  have HFl := hid (show F.length = k by rw [hF, List.length_take, HLl.out]; omega)
  have HFw := hid (show Sl U 3 wdE (.slice (some ⟨g3, 0, none⟩) k c3) F by rw [hF]; exact Sl.take (c := c3) (by rw [HLl.out]; exact HSLU.out) k (by rw [HLl.out]; omega) c3 hkc)
  have HFo := hid (show ∀ a ∈ F, WdOk a by rw [hF]; exact fun a ha => HLo.out a (List.mem_of_mem_take ha))
  have HFr := hid (show redoN 3 8 1 F = ([], 1) from redo31_few (by rw [HFl.out]; exact hk4))
  have HFc := hid (show cleanN 3 8 1 F = false from clean31_few (by rw [HFl.out]; exact hk4))
  have HRz := hid (redoZ L)
  clear hF
  go_wp2_with fail
  refine (rwords_any 3 8 1 F _ HFo.out (by rw [HFl.out]; omega) _ (HS.out.of (HXw.out.trans (by (show Ext _ _; repeat (first | with_reducible (refine Hid.out ?_; assumption) | with_reducible exact Ext.refl _ | with_reducible refine Ext.ext ?_ _ | with_reducible refine Ext.alloc ?_ _ | refine Ext.drew ?_ | refine Ext.drewN ?_ _ | exact Ext.refl _))))) (HFw.out.of wdE_len (HXU.out.trans (by (show Ext _ _; repeat (first | with_reducible (refine Hid.out ?_; assumption) | with_reducible exact Ext.refl _ | with_reducible refine Ext.ext ?_ _ | with_reducible refine Ext.alloc ?_ _ | refine Ext.drew ?_ | refine Ext.drewN ?_ _ | exact Ext.refl _)))))).mono ?_
  rintro y w' ⟨v9, rfl, ⟨r12, rfl⟩, hv9⟩
  rw [HFr.out] at hv9 ⊢
  obtain ⟨a9, c9, rfl⟩ := Own.shape hv9
  clear hv9
  go_wp2_with fail
  refine (rwords_any 0 0 0 L _ HLo.out (by rw [HLl.out]; omega) _ (HS.out.of (HXw.out.trans (by (show Ext _ _; repeat (first | with_reducible (refine Hid.out ?_; assumption) | with_reducible exact Ext.refl _ | with_reducible refine Ext.ext ?_ _ | with_reducible refine Ext.alloc ?_ _ | refine Ext.drew ?_ | refine Ext.drewN ?_ _ | exact Ext.refl _))))) (HSLU.out.of wdE_len (HXU.out.trans (by (show Ext _ _; repeat (first | with_reducible (refine Hid.out ?_; assumption) | with_reducible exact Ext.refl _ | with_reducible refine Ext.ext ?_ _ | with_reducible refine Ext.alloc ?_ _ | refine Ext.drew ?_ | refine Ext.drewN ?_ _ | exact Ext.refl _)))))).mono ?_
  rintro y w' ⟨v10, rfl, ⟨r13, rfl⟩, hv10⟩
  rw [HRz.out] at hv10 ⊢
  obtain ⟨a10, c10, rfl⟩ := Own.shape hv10
  clear hv10
  go_wp2_with fail
  refine (rclean_any 3 8 1 F _ (by rw [HFl.out]; omega) _ (HS.out.of (HXw.out.trans (by (show Ext _ _; repeat (first | with_reducible (refine Hid.out ?_; assumption) | with_reducible exact Ext.refl _ | with_reducible refine Ext.ext ?_ _ | with_reducible refine Ext.alloc ?_ _ | refine Ext.drew ?_ | refine Ext.drewN ?_ _ | exact Ext.refl _))))) (HFw.out.of wdE_len (HXU.out.trans (by (show Ext _ _; repeat (first | with_reducible (refine Hid.out ?_; assumption) | with_reducible exact Ext.refl _ | with_reducible refine Ext.ext ?_ _ | with_reducible refine Ext.alloc ?_ _ | refine Ext.drew ?_ | refine Ext.drewN ?_ _ | exact Ext.refl _)))))).mono ?_
  rintro e w' ⟨rfl, r14, rfl⟩
  rw [HFc.out]
  go_wp2_with fail
  go_ret
  exact ⟨rfl, HXw.out.trans (by (show Ext _ _; repeat (first | with_reducible (refine Hid.out ?_; assumption) | with_reducible exact Ext.refl _ | with_reducible refine Ext.ext ?_ _ | with_reducible refine Ext.alloc ?_ _ | refine Ext.drew ?_ | refine Ext.drewN ?_ _ | exact Ext.refl _)))⟩
end

theorem redw_any (va vb : List Int) (sv : Value) (sw : List Swp) (ob : List Bool) (st ow : List Int) (av nv : Value) (la : List Int) (ln : List Wd) (hva : va.length = 6) (hvb : vb.length = 6) (oa : ∀ a ∈ va, -128 ≤ a ∧ a ≤ 127) (obb : ∀ a ∈ vb, 0 ≤ a ∧ a ≤ 255)
    (hob : ob.length = 3) (hst : st.length = 3) (how : ow.length = 6) (ost : ∀ a ∈ st, 0 ≤ a ∧ a ≤ 255) (oow : ∀ a ∈ ow, -128 ≤ a ∧ a ≤ 127) (oav : ∀ a ∈ la, 0 ≤ a ∧ a ≤ 65535) (onv : ∀ a ∈ ln, WdOk a) (cut : Int) (hcu : 0 ≤ cut ∧ cut ≤ 65535) (w : World) (hs : Szs w) (hsv : Sl w 1 swE sv sw) (hsw : ∀ a ∈ sw, SwOk w a) (sav : Sl w 1 u16E av la) (snv : Sl w 3 wdE nv ln) :
    Calls Tryd.prog 3 #[.agg (c25E va vb sv ob st ow av nv).toArray, .int .u16 cut] w fun y w' => y = .returned (.bool true) ∧ ∃ r, w' = ext w r := by
  obtain ⟨a0, a1, a2, a3, a4, a5, rfl⟩ := list6w hva
  obtain ⟨b0, b1, b2, b3, b4, b5, rfl⟩ := list6w hvb
  obtain ⟨o0, o1, o2, rfl⟩ := list3w hob
  obtain ⟨s0, s1, s2, rfl⟩ := list3w hst
  obtain ⟨w0, w1, w2, w3, w4, w5, rfl⟩ := list6w how
  exact redw_exp a0 a1 a2 a3 a4 a5 b0 b1 b2 b3 b4 b5 o0 o1 o2 s0 s1 s2 w0 w1 w2 w3 w4 w5 oa obb ost oow sv sw av nv la ln oav onv cut hcu w hs hsv hsw sav snv

end Go.Proofs.YtfijnpfhffhffaaDoor
