/- Walk of the recovery code's method keep. -/
import Derived.Test.YtdpbcfjfnclpiaaDoorPk20
namespace Go.Proofs.YtdpbcfjfnclpiaaDoor
set_option linter.unusedSimpArgs false
set_option linter.unusedVariables false
open Go.RowKit
theorem Cd.acts9 [LoC] {t c b : Int} {w : World} {g : Nat} {s : CS} {pa sa ta la aa ra fa : Option Addr} {pc sc tc lc ac rc fc : Nat} (h : Cd t c b w g s pa sa ta la aa ra fa pc sc tc lc ac rc fc) {l' : List Ac} {a' : Option Addr} {n c' : Nat} (hn : n = l'.length)
 (hsn : Sn w g 8 acE (.slice a' n c') l') : Cd t c b (w.setCell ⟨g, 9, none⟩ (.slice a' n c')) g { s with acts := l' } pa sa ta la a' ra fa pc sc tc lc c' rc fc := by
 subst hn
 have hg : Grn g w (w.setCell ⟨g, 9, none⟩ (.slice a' l'.length c')) := Grn.refl.setCell _ _
 exact ⟨h.blk.set 9 (by simp) _, h.pl.grn locE_len hg, h.sl.grn locE_len hg, h.th.grn locE_len hg, h.loads.grn locE_len hg, hsn.grn acE_len hg, h.stored.grn locE_len hg, h.loaded.grn fdE_len hg, h.tight, Nat.le_trans h.big hg.size⟩
theorem Sn.nil [LoC] {α : Type} {enc : α → List Value} {size g : Nat} {w : World} : Sn w g size enc (.slice none 0 0) ([] : List α) :=
 ⟨⟨none, 0, rfl, ⟨by simp, Nat.le_refl _⟩, fun hne => absurd rfl hne⟩, fun hne => absurd rfl hne⟩
theorem Cd.stored10 [LoC] {t c b : Int} {w : World} {g : Nat} {s : CS} {pa sa ta la aa ra fa : Option Addr} {pc sc tc lc ac rc fc : Nat} (h : Cd t c b w g s pa sa ta la aa ra fa pc sc tc lc ac rc fc) :
 Cd t c b (w.setCell ⟨g, 10, none⟩ (.slice none 0 0)) g { s with stored := [] } pa sa ta la aa none fa pc sc tc lc ac 0 fc := by
 have hg : Grn g w (w.setCell ⟨g, 10, none⟩ (.slice none 0 0)) := Grn.refl.setCell _ _
 exact ⟨h.blk.set 10 (by simp) _, h.pl.grn locE_len hg, h.sl.grn locE_len hg, h.th.grn locE_len hg, h.loads.grn locE_len hg, h.acts.grn acE_len hg, Sn.nil, h.loaded.grn fdE_len hg, h.tight, Nat.le_trans h.big hg.size⟩
def flL (l : List Nat) : List Ac := l.map (fun (p : Nat) => ((7 : Int), (p : Int), zW))
theorem flL_succ {l : List Nat} {j p : Nat} (h : l[j]? = some p) : flL (l.take (j + 1)) = flL (l.take j) ++ [((7 : Int), (p : Int), zW)] := by
 obtain ⟨h1, h2⟩ := List.getElem?_eq_some_iff.1 h
 unfold flL
 rw [List.take_succ_eq_append_getElem h1, h2, List.map_append]; rfl
theorem flL_len (l : List Nat) : (flL l).length = l.length := by simp [flL]
set_option maxRecDepth 100000 in
set_option maxHeartbeats 2000000 in
theorem keep_any [LoC] {t c b : Int} {w : World} {g : Nat} {s : CS} (h : Cx t c b w g s) (hb1 : s.acts.length ≤ 50000) (hb2 : s.stored.length ≤ 50000) :
 Calls Tryd.prog 99 #[.pointer (some ⟨g, 0, none⟩)] w fun e w' => e = .returned (.bool true) ∧ Cx t c b w' g (cKeep s) ∧ Grn g w w' := by
 obtain ⟨pa, sa, ta, la, aa, ra, fa, pc, sc, tc, lc, ac, rc, fc, hcd⟩ := h
 have HC := hid hcd
 have lg := hcd.blk.1
 have l10 := hcd.blk.2.2 10 _ rfl
 obtain ⟨N, hN⟩ : ∃ N, N = s.stored.length := ⟨_, rfl⟩
 rw [← hN] at l10 hb2
 have HN := hid hN
 clear hcd hN
 go_enter Tryd.func99, Tryd.ntmps99
 go_wp2_with fail
 go_loopw [10] (fun i wr => ∃ j : Nat, j ≤ N ∧ i = .int .i64 j ∧ ∃ aa' ac', Hid (Cd t c b wr g { s with acts := s.acts ++ flL (s.stored.take j) } pa sa ta la aa' ra fa pc sc tc lc ac' rc fc) ∧ Hid (Grn g w wr)) (fun i _ => N - (intOf i).toNat)
 case atStart => exact ⟨0, by omega, rfl, aa, ac, hid (by simpa [flL] using HC.out), hid Grn.refl⟩
 case round =>
 obtain ⟨j, hj, rfl, aw, cw, HD, HG⟩ := hrel
 have rg := HD.out.blk.1
 have r10 := HD.out.blk.2.2 10 _ rfl
 dsimp only at r10
 rw [← HN.out] at r10
 by_cases hjn : j < N
 ·have hd : decide (j < N) = true := decide_eq_true hjn
  have hji : (j : Int) < (N : Int) := by omega
  obtain ⟨p, hp⟩ : ∃ x, s.stored[j]? = some x := ⟨_, List.getElem?_eq_getElem (by rw [← HN.out]; exact hjn)⟩
  obtain ⟨hq, b0, o0, hab, hb0, hc0⟩ := Sl.at HD.out.stored.1 (show ({ s with acts := s.acts ++ flL (s.stored.take j) } : CS).stored[j]? = some p from hp)
  have k0 := hc0 0 (by omega)
  simp [locE] at k0
  have HFl := hid (flL_succ hp)
  obtain ⟨A0, hA0⟩ : ∃ A0, A0 = s.acts ++ flL (s.stored.take j) := ⟨_, rfl⟩
  have hlen : A0.length ≤ 100000 := by rw [hA0, List.length_append, flL_len, List.length_take]; omega
  have HA0 := hid hA0
  rw [← hA0] at HD
  obtain ⟨n, hn⟩ : ∃ n, n = A0.length := ⟨_, rfl⟩
  have l9 := HD.out.blk.2.2 9 _ rfl
  have HA := hid (HD.out.acts.1.clip)
  have hna := HD.out.acts.1.room.2.1
  dsimp only at l9 HA hna
  rw [← hn] at l9 HA hna hlen
  have HNn := hid hn
  subst hab
  clear hq hc0 hp hA0 hn
  go_upto_region 4 with fail
  refine wp_region_facts [14, 15, 16, 17, 18, 19, 20, 21, 22, 23, 24, 25, 26, 27, 28, 29, 30, 31, 32, 33, 34, 35] [0, 1, 2, 3, 4, 5, 6, 7, 8, 9, 10, 11, 12, 13, 14, 15, 16, 17, 18, 19, 20, 21] rfl (fun w' => Ext wr w' ∧ (w'.cell? ⟨g, 9, none⟩ = some (.slice aw n cw) ∧ g < w'.heap.size)) (fsAt [IsV ?_, IsV ?_, IsV ?_, IsV ?_, IsV ?_, IsV ?_, IsV ?_, IsV ?_, IsV ?_, IsV ?_, IsV ?_, IsV ?_, IsV ?_, IsV ?_, IsV ?_, IsV ?_, IsV ?_, IsV ?_, (fun v w' => ∃ q, v = .slice (some ⟨q, 0, none⟩) 1 1 ∧ Blk w' q (acE ((7 : Int), (p : Int), zW))), (fun v w' => ∃ av cv, v = .slice av (n + 1) cv ∧ Own w' wr.heap.size 46 8 acE v (A0 ++ [((7 : Int), (p : Int), zW)])), IsV ?_, IsV ?_]) (by kernel_rfl) (by kernel_rfl) (by exact ⟨(Ext.refl _).drew, l9, rg⟩) (fun w w' h he => ⟨h.1.trans he, he.cell h.2.1, Nat.lt_of_lt_of_le h.2.2 he.size⟩) (AllOn.cons (fun _ _ _ h _ => h) (AllOn.cons (fun _ _ _ h _ => h) (AllOn.cons (fun _ _ _ h _ => h) (AllOn.cons (fun _ _ _ h _ => h) (AllOn.cons (fun _ _ _ h _ => h) (AllOn.cons (fun _ _ _ h _ => h) (AllOn.cons (fun _ _ _ h _ => h) (AllOn.cons (fun _ _ _ h _ => h) (AllOn.cons (fun _ _ _ h _ => h) (AllOn.cons (fun _ _ _ h _ => h) (AllOn.cons (fun _ _ _ h _ => h) (AllOn.cons (fun _ _ _ h _ => h) (AllOn.cons (fun _ _ _ h _ => h) (AllOn.cons (fun _ _ _ h _ => h) (AllOn.cons (fun _ _ _ h _ => h) (AllOn.cons (fun _ _ _ h _ => h) (AllOn.cons (fun _ _ _ h _ => h) (AllOn.cons (fun _ _ _ h _ => h) (AllOn.cons (fun _ _ _ h he => by obtain ⟨q, h1, h2⟩ := h; exact ⟨q, h1, h2.of he⟩) (AllOn.cons (fun _ _ _ h he => by obtain ⟨q, q2, h1, h2⟩ := h; exact ⟨q, q2, h1, h2.of_ext he⟩) (AllOn.cons (fun _ _ _ h _ => h) (AllOn.cons (fun _ _ _ h _ => h) (AllOn.nil))))))))))))))))))))))) (AllOn.cons ?_ (AllOn.cons ?_ (AllOn.cons ?_ (AllOn.cons ?_ (AllOn.cons ?_ (AllOn.cons ?_ (AllOn.cons ?_ (AllOn.cons ?_ (AllOn.cons ?_ (AllOn.cons ?_ (AllOn.cons ?_ (AllOn.cons ?_ (AllOn.cons ?_ (AllOn.cons ?_ (AllOn.cons ?_ (AllOn.cons ?_ (AllOn.cons ?_ (AllOn.cons ?_ (AllOn.cons ?_ (AllOn.cons ?_ (AllOn.cons ?_ (AllOn.cons ?_ (AllOn.nil))))))))))))))))))))))) ?_
  rotate_left 20
  ·intro A w hC hO hD
   have e0 := evO hO 0 rfl
   obtain ⟨cx, c0, c1⟩ := hC
   clear hD hO
   refine head_val (o := ⟨_, _, _, _, _, _⟩) rfl ?_ rfl rfl ?_ ?_
   rotate_left 1
   ·simp [go_sem, e0, cx, c0, c1, hna]
    try with_reducible rfl
   ·exact IsV.mk (w := w)
  ·intro A w hC hO hD
   have e0 := evO hO 0 rfl
   obtain ⟨cx, c0, c1⟩ := hC
   clear hD hO
   refine head_val (o := ⟨_, _, _, _, _, _⟩) rfl ?_ rfl rfl ?_ ?_
   rotate_left 1
   ·simp [go_sem, e0, cx, c0, c1, hna]
    try with_reducible rfl
   ·exact IsV.mk (w := w)
  ·intro A w hC hO hD
   have e15 := evD (hD 1 (by kernel_rfl) 15 rfl)
   obtain ⟨cx, c0, c1⟩ := hC
   clear hD hO
   refine head_val (o := ⟨_, _, _, _, _, _⟩) rfl ?_ rfl rfl ?_ ?_
   rotate_left 1
   ·simp [go_sem, e15, cx, c0, c1, hna]
    try with_reducible rfl
   ·exact IsV.mk (w := w)
  ·intro A w hC hO hD
   have e16 := evD (hD 2 (by kernel_rfl) 16 rfl)
   obtain ⟨cx, c0, c1⟩ := hC
   clear hD hO
   refine head_val (o := ⟨_, _, _, _, _, _⟩) rfl ?_ rfl rfl ?_ ?_
   rotate_left 1
   ·simp [go_sem, e16, cx, c0, c1, hna]
    try with_reducible rfl
   ·exact IsV.mk (w := w)
  ·intro A w hC hO hD
   have e17 := evD (hD 3 (by kernel_rfl) 17 rfl)
   obtain ⟨cx, c0, c1⟩ := hC
   clear hD hO
   refine head_val (o := ⟨_, _, _, _, _, _⟩) rfl ?_ rfl rfl ?_ ?_
   rotate_left 1
   ·simp [go_sem, e17, cx, c0, c1, hna]
    try with_reducible rfl
   ·exact IsV.mk (w := w)
  ·intro A w hC hO hD
   have e0 := evO hO 0 rfl
   obtain ⟨cx, c0, c1⟩ := hC
   clear hD hO
   refine head_val (o := ⟨_, _, _, _, _, _⟩) rfl ?_ rfl rfl ?_ ?_
   rotate_left 1
   ·simp [go_sem, e0, cx, c0, c1, hna]
    try with_reducible rfl
   ·exact IsV.mk (w := w)
  ·intro A w hC hO hD
   have e19 := evD (hD 5 (by kernel_rfl) 19 rfl)
   obtain ⟨cx, c0, c1⟩ := hC
   clear hD hO
   refine head_val (o := ⟨_, _, _, _, _, _⟩) rfl ?_ rfl rfl ?_ ?_
   rotate_left 1
   ·simp [go_sem, e19, cx, c0, c1, hna]
    try with_reducible rfl
   ·exact IsV.mk (w := w)
  ·intro A w hC hO hD
   have e20 := evD (hD 6 (by kernel_rfl) 20 rfl)
   obtain ⟨cx, c0, c1⟩ := hC
   clear hD hO
   refine head_val (o := ⟨_, _, _, _, _, _⟩) rfl ?_ rfl rfl ?_ ?_
   rotate_left 1
   ·simp [go_sem, e20, cx, c0, c1, hna]
    try with_reducible rfl
   ·exact IsV.mk (w := w)
  ·intro A w hC hO hD
   have e21 := evD (hD 7 (by kernel_rfl) 21 rfl)
   obtain ⟨cx, c0, c1⟩ := hC
   clear hD hO
   refine head_val (o := ⟨_, _, _, _, _, _⟩) rfl ?_ rfl rfl ?_ ?_
   rotate_left 1
   ·simp [go_sem, e21, cx, c0, c1, hna]
    try with_reducible rfl
   ·exact IsV.mk (w := w)
  ·intro A w hC hO hD
   have e22 := evD (hD 8 (by kernel_rfl) 22 rfl)
   obtain ⟨cx, c0, c1⟩ := hC
   clear hD hO
   refine head_val (o := ⟨_, _, _, _, _, _⟩) rfl ?_ rfl rfl ?_ ?_
   rotate_left 1
   ·simp [go_sem, e22, cx, c0, c1, hna]
    try with_reducible rfl
   ·exact IsV.mk (w := w)
  ·intro A w hC hO hD
   have e0 := evO hO 0 rfl
   obtain ⟨cx, c0, c1⟩ := hC
   clear hD hO
   refine head_val (o := ⟨_, _, _, _, _, _⟩) rfl ?_ rfl rfl ?_ ?_
   rotate_left 1
   ·simp [go_sem, e0, cx, c0, c1, hna]
    try with_reducible rfl
   ·exact IsV.mk (w := w)
  ·intro A w hC hO hD
   have e24 := evD (hD 10 (by kernel_rfl) 24 rfl)
   obtain ⟨cx, c0, c1⟩ := hC
   clear hD hO
   refine head_val (o := ⟨_, _, _, _, _, _⟩) rfl ?_ rfl rfl ?_ ?_
   rotate_left 1
   ·simp [go_sem, e24, cx, c0, c1, hna]
    try with_reducible rfl
   ·exact IsV.mk (w := w)
  ·intro A w hC hO hD
   have e25 := evD (hD 11 (by kernel_rfl) 25 rfl)
   obtain ⟨cx, c0, c1⟩ := hC
   clear hD hO
   refine head_val (o := ⟨_, _, _, _, _, _⟩) rfl ?_ rfl rfl ?_ ?_
   rotate_left 1
   ·simp [go_sem, e25, cx, c0, c1, hna]
    try with_reducible rfl
   ·exact IsV.mk (w := w)
  ·intro A w hC hO hD
   have e26 := evD (hD 12 (by kernel_rfl) 26 rfl)
   obtain ⟨cx, c0, c1⟩ := hC
   clear hD hO
   refine head_val (o := ⟨_, _, _, _, _, _⟩) rfl ?_ rfl rfl ?_ ?_
   rotate_left 1
   ·simp [go_sem, e26, cx, c0, c1, hna]
    try with_reducible rfl
   ·exact IsV.mk (w := w)
  ·intro A w hC hO hD
   have e27 := evD (hD 13 (by kernel_rfl) 27 rfl)
   obtain ⟨cx, c0, c1⟩ := hC
   clear hD hO
   refine head_val (o := ⟨_, _, _, _, _, _⟩) rfl ?_ rfl rfl ?_ ?_
   rotate_left 1
   ·simp [go_sem, e27, cx, c0, c1, hna]
    try with_reducible rfl
   ·exact IsV.mk (w := w)
  ·intro A w hC hO hD
   have e18 := evD (hD 4 (by kernel_rfl) 18 rfl)
   have e23 := evD (hD 9 (by kernel_rfl) 23 rfl)
   have e28 := evD (hD 14 (by kernel_rfl) 28 rfl)
   obtain ⟨cx, c0, c1⟩ := hC
   clear hD hO
   refine head_val (o := ⟨_, _, _, _, _, _⟩) rfl ?_ rfl rfl ?_ ?_
   rotate_left 1
   ·simp [go_sem, e18, e23, e28, cx, c0, c1, hna]
    try with_reducible rfl
   ·exact IsV.mk (w := w)
  ·intro A w hC hO hD
   have e4 := evO hO 4 rfl
   obtain ⟨cx, c0, c1⟩ := hC
   clear hD hO
   refine head_val (o := ⟨_, _, _, _, _, _⟩) rfl ?_ rfl rfl ?_ ?_
   rotate_left 1
   ·simp [go_sem, e4, cx, c0, c1, hna]
    try with_reducible rfl
   ·exact IsV.mk (w := w)
  ·intro A w hC hO hD
   have e30 := evD (hD 16 (by kernel_rfl) 30 rfl)
   obtain ⟨cx, c0, c1⟩ := hC
   clear hD hO
   refine head_val (o := ⟨_, _, _, _, _, _⟩) rfl ?_ rfl rfl ?_ ?_
   rotate_left 1
   ·simp [go_sem, e30, cx, c0, c1, hna]
    try with_reducible rfl
   ·exact IsV.mk (w := w)
  ·intro A w hC hO hD
   have e31 := evD (hD 17 (by kernel_rfl) 31 rfl)
   obtain ⟨cx, c0, c1⟩ := hC
   clear hD hO
   refine head_wp (o := ⟨_, _, _, _, _, _⟩) rfl rfl ?_
   simp [go_sem, e31]
   exact ⟨_, rfl, Ext.of_alloc _ _, _, rfl, Blk.new _ _ rfl rfl⟩
  ·intro A w hC hO hD
   have e29 := evD (hD 15 (by kernel_rfl) 29 rfl)
   have e32 := hD 18 (by kernel_rfl) 32 rfl
   rw [ev_tm] at e32
   obtain ⟨cx, c0, c1⟩ := hC
   clear hD hO
   refine head_wp (o := ⟨_, _, _, _, _, _⟩) rfl rfl ?_
   obtain ⟨q, e32, hq⟩ := e32
   refine ac_clip_op _ _ rfl ((ev_tm A 29).trans e29) (HA.out.of acE_len cx) _ 1 1 ((ev_tm A 32).trans e32) [((7 : Int), (p : Int), zW)] rfl (by omega) (blk_news hq) (by omega) ?_
   intro v' r hown
   obtain ⟨av, cv, hsh⟩ := Own.shape hown
   exact ⟨v', rfl, ⟨r, rfl⟩, av, cv, by rw [hsh, List.length_append, ← HNn.out]; rfl, Own.mono hown cx.size⟩
  ·intro A w hC hO hD
   have e14 := evD (hD 0 (by kernel_rfl) 14 rfl)
   obtain ⟨cx, c0, c1⟩ := hC
   clear hD hO
   refine head_val (o := ⟨_, _, _, _, _, _⟩) rfl ?_ rfl rfl ?_ ?_
   rotate_left 1
   ·simp [go_sem, e14, cx, c0, c1, hna]
    try with_reducible rfl
   ·exact IsV.mk (w := w)
  ·intro A w hC hO hD
   have e34 := evD (hD 20 (by kernel_rfl) 34 rfl)
   obtain ⟨cx, c0, c1⟩ := hC
   clear hD hO
   refine head_val (o := ⟨_, _, _, _, _, _⟩) rfl ?_ rfl rfl ?_ ?_
   rotate_left 1
   ·simp [go_sem, e34, cx, c0, c1, hna]
    try with_reducible rfl
   ·exact IsV.mk (w := w)
  intro u wx hC hF
  obtain ⟨f0, f1, f2, f3, f4, f5, f6, f7, f8, f9, f10, f11, f12, f13, f14, f15, f16, f17, f18, f19, f20, f21, _⟩ := hF
  have g0 : u 0 = _ := f0
  have g1 : u 1 = _ := f1
  have g2 : u 2 = _ := f2
  have g3 : u 3 = _ := f3
  have g4 : u 4 = _ := f4
  have g5 : u 5 = _ := f5
  have g6 : u 6 = _ := f6
  have g7 : u 7 = _ := f7
  have g8 : u 8 = _ := f8
  have g9 : u 9 = _ := f9
  have g10 : u 10 = _ := f10
  have g11 : u 11 = _ := f11
  have g12 : u 12 = _ := f12
  have g13 : u 13 = _ := f13
  have g14 : u 14 = _ := f14
  have g15 : u 15 = _ := f15
  have g16 : u 16 = _ := f16
  have g17 : u 17 = _ := f17
  obtain ⟨v18, g18⟩ : ∃ v, u 18 = v := ⟨_, rfl⟩
  rw [g18] at f18
  obtain ⟨v19, g19⟩ : ∃ v, u 19 = v := ⟨_, rfl⟩
  rw [g19] at f19
  have g20 : u 20 = _ := f20
  have g21 : u 21 = _ := f21
  simp only [fPut, Nat.zero_add, Nat.reduceAdd, g0, g1, g2, g3, g4, g5, g6, g7, g8, g9, g10, g11, g12, g13, g14, g15, g16, g17, g18, g19, g20, g21, Act.put, List.setIfInBounds_toArray, List.set_cons_zero, List.set_cons_succ, List.length_cons, List.length_nil, List.drop_succ_cons, List.drop_zero]
  clear g0 g1 g2 g3 g4 g5 g6 g7 g8 g9 g10 g11 g12 g13 g14 g15 g16 g17 g18 g19 g20 g21 f0 f1 f2 f3 f4 f5 f6 f7 f8 f9 f10 f11 f12 f13 f14 f15 f16 f17 f20 f21
  obtain ⟨av, cv, hv19, ho19⟩ := f19
  subst hv19
  have HXx := hid hC.1
  have HDx := hid (HD.out.of HXx.out)
  have HO := hid ho19
  have q0 := HDx.out.blk.2.2 9 _ rfl
  have q1 := HDx.out.blk.2.1 9
  have q2 := HDx.out.blk.1
  clear hC ho19 f18
  go_wp2_with fail
  go_roundw
  case rel => exact ⟨j + 1, by omega, by go_num, av, cv, hid (by rw [HFl.out, ← List.append_assoc, ← HA0.out]; exact HDx.out.acts9 (by rw [List.length_append, ← HNn.out]; rfl) (Own.sn acE_len HO.out HD.out.big)), hid ((HG.out.trans (Grn.of_ext HXx.out)).setCell _ _)⟩
  case measure => simp [intOf]; omega
 ·have hd : decide (j < N) = false := decide_eq_false hjn
  have HT := hid (show s.stored.take j = s.stored by rw [show j = s.stored.length by rw [← HN.out]; omega, List.take_length])
  rw [HT.out] at HD
  have f10 := HD.out.blk.2.1 10
  by_cases h0 : N = 0
  ·have hN0 : ¬ (0 : Int) < (N : Int) := by omega
   have HK := hid (show cKeep s = { ({ s with acts := s.acts ++ flL s.stored } : CS) with stored := [] } by
    have : s.stored = [] := List.eq_nil_of_length_eq_zero (by rw [← HN.out]; exact h0)
    unfold cKeep flL; rw [this]; simp)
   clear h0
   go_wp2_with fail
   go_ret
   rw [HK.out]
   exact ⟨rfl, ⟨_, _, _, _, _, _, _, _, _, _, _, _, _, _, HD.out.stored10⟩, HG.out.setCell _ _⟩
  ·have hN0 : (0 : Int) < (N : Int) := by omega
   obtain ⟨A0, hA0⟩ : ∃ A0, A0 = s.acts ++ flL s.stored := ⟨_, rfl⟩
   have HK := hid (show cKeep s = { ({ s with acts := A0 ++ [((8 : Int), (0 : Int), zW)] } : CS) with stored := [] } by
    have : s.stored.isEmpty = false := by rw [List.isEmpty_eq_false_iff]; intro e; rw [HN.out, e] at h0; exact h0 rfl
    rw [hA0]
    unfold cKeep flL; rw [this]; rfl)
   have hlen : A0.length ≤ 100000 := by rw [hA0, List.length_append, flL_len, ← HN.out]; omega
   rw [← hA0] at HD
   obtain ⟨n, hn⟩ : ∃ n, n = A0.length := ⟨_, rfl⟩
   have l9 := HD.out.blk.2.2 9 _ rfl
   have HA := hid (HD.out.acts.1.clip)
   have hna := HD.out.acts.1.room.2.1
   dsimp only at l9 HA hna
   rw [← hn] at l9 HA hna hlen
   have HNn := hid hn
   clear h0 hA0 hn
   go_upto_region 7 with fail
   refine wp_region_facts [43, 44, 45, 46, 47, 48, 49, 50, 51, 52, 53, 54, 55, 56, 57, 58, 59, 60, 61, 62, 63] [0, 1, 2, 3, 4, 5, 6, 7, 8, 9, 10, 11, 12, 13, 14, 15, 16, 17, 18, 19, 20] rfl (fun w' => Ext wr w' ∧ (w'.cell? ⟨g, 9, none⟩ = some (.slice aw n cw) ∧ g < w'.heap.size)) (fsAt [IsV ?_, IsV ?_, IsV ?_, IsV ?_, IsV ?_, IsV ?_, IsV ?_, IsV ?_, IsV ?_, IsV ?_, IsV ?_, IsV ?_, IsV ?_, IsV ?_, IsV ?_, IsV ?_, IsV ?_, (fun v w' => ∃ q, v = .slice (some ⟨q, 0, none⟩) 1 1 ∧ Blk w' q (acE ((8 : Int), (0 : Int), zW))), (fun v w' => ∃ av cv, v = .slice av (n + 1) cv ∧ Own w' wr.heap.size 46 8 acE v (A0 ++ [((8 : Int), (0 : Int), zW)])), IsV ?_, IsV ?_]) (by kernel_rfl) (by kernel_rfl) (by exact ⟨(Ext.refl _).drew, l9, rg⟩) (fun w w' h he => ⟨h.1.trans he, he.cell h.2.1, Nat.lt_of_lt_of_le h.2.2 he.size⟩) (AllOn.cons (fun _ _ _ h _ => h) (AllOn.cons (fun _ _ _ h _ => h) (AllOn.cons (fun _ _ _ h _ => h) (AllOn.cons (fun _ _ _ h _ => h) (AllOn.cons (fun _ _ _ h _ => h) (AllOn.cons (fun _ _ _ h _ => h) (AllOn.cons (fun _ _ _ h _ => h) (AllOn.cons (fun _ _ _ h _ => h) (AllOn.cons (fun _ _ _ h _ => h) (AllOn.cons (fun _ _ _ h _ => h) (AllOn.cons (fun _ _ _ h _ => h) (AllOn.cons (fun _ _ _ h _ => h) (AllOn.cons (fun _ _ _ h _ => h) (AllOn.cons (fun _ _ _ h _ => h) (AllOn.cons (fun _ _ _ h _ => h) (AllOn.cons (fun _ _ _ h _ => h) (AllOn.cons (fun _ _ _ h _ => h) (AllOn.cons (fun _ _ _ h he => by obtain ⟨q, h1, h2⟩ := h; exact ⟨q, h1, h2.of he⟩) (AllOn.cons (fun _ _ _ h he => by obtain ⟨q, q2, h1, h2⟩ := h; exact ⟨q, q2, h1, h2.of_ext he⟩) (AllOn.cons (fun _ _ _ h _ => h) (AllOn.cons (fun _ _ _ h _ => h) (AllOn.nil)))))))))))))))))))))) (AllOn.cons ?_ (AllOn.cons ?_ (AllOn.cons ?_ (AllOn.cons ?_ (AllOn.cons ?_ (AllOn.cons ?_ (AllOn.cons ?_ (AllOn.cons ?_ (AllOn.cons ?_ (AllOn.cons ?_ (AllOn.cons ?_ (AllOn.cons ?_ (AllOn.cons ?_ (AllOn.cons ?_ (AllOn.cons ?_ (AllOn.cons ?_ (AllOn.cons ?_ (AllOn.cons ?_ (AllOn.cons ?_ (AllOn.cons ?_ (AllOn.cons ?_ (AllOn.nil)))))))))))))))))))))) ?_
   rotate_left 19
   ·intro A w hC hO hD
    have e0 := evO hO 0 rfl
    obtain ⟨cx, c0, c1⟩ := hC
    clear hD hO
    refine head_val (o := ⟨_, _, _, _, _, _⟩) rfl ?_ rfl rfl ?_ ?_
    rotate_left 1
    ·simp [go_sem, e0, cx, c0, c1, hna]
     try with_reducible rfl
    ·exact IsV.mk (w := w)
   ·intro A w hC hO hD
    have e0 := evO hO 0 rfl
    obtain ⟨cx, c0, c1⟩ := hC
    clear hD hO
    refine head_val (o := ⟨_, _, _, _, _, _⟩) rfl ?_ rfl rfl ?_ ?_
    rotate_left 1
    ·simp [go_sem, e0, cx, c0, c1, hna]
     try with_reducible rfl
    ·exact IsV.mk (w := w)
   ·intro A w hC hO hD
    have e44 := evD (hD 1 (by kernel_rfl) 44 rfl)
    obtain ⟨cx, c0, c1⟩ := hC
    clear hD hO
    refine head_val (o := ⟨_, _, _, _, _, _⟩) rfl ?_ rfl rfl ?_ ?_
    rotate_left 1
    ·simp [go_sem, e44, cx, c0, c1, hna]
     try with_reducible rfl
    ·exact IsV.mk (w := w)
   ·intro A w hC hO hD
    have e45 := evD (hD 2 (by kernel_rfl) 45 rfl)
    obtain ⟨cx, c0, c1⟩ := hC
    clear hD hO
    refine head_val (o := ⟨_, _, _, _, _, _⟩) rfl ?_ rfl rfl ?_ ?_
    rotate_left 1
    ·simp [go_sem, e45, cx, c0, c1, hna]
     try with_reducible rfl
    ·exact IsV.mk (w := w)
   ·intro A w hC hO hD
    have e46 := evD (hD 3 (by kernel_rfl) 46 rfl)
    obtain ⟨cx, c0, c1⟩ := hC
    clear hD hO
    refine head_val (o := ⟨_, _, _, _, _, _⟩) rfl ?_ rfl rfl ?_ ?_
    rotate_left 1
    ·simp [go_sem, e46, cx, c0, c1, hna]
     try with_reducible rfl
    ·exact IsV.mk (w := w)
   ·intro A w hC hO hD
    have e0 := evO hO 0 rfl
    obtain ⟨cx, c0, c1⟩ := hC
    clear hD hO
    refine head_val (o := ⟨_, _, _, _, _, _⟩) rfl ?_ rfl rfl ?_ ?_
    rotate_left 1
    ·simp [go_sem, e0, cx, c0, c1, hna]
     try with_reducible rfl
    ·exact IsV.mk (w := w)
   ·intro A w hC hO hD
    have e48 := evD (hD 5 (by kernel_rfl) 48 rfl)
    obtain ⟨cx, c0, c1⟩ := hC
    clear hD hO
    refine head_val (o := ⟨_, _, _, _, _, _⟩) rfl ?_ rfl rfl ?_ ?_
    rotate_left 1
    ·simp [go_sem, e48, cx, c0, c1, hna]
     try with_reducible rfl
    ·exact IsV.mk (w := w)
   ·intro A w hC hO hD
    have e49 := evD (hD 6 (by kernel_rfl) 49 rfl)
    obtain ⟨cx, c0, c1⟩ := hC
    clear hD hO
    refine head_val (o := ⟨_, _, _, _, _, _⟩) rfl ?_ rfl rfl ?_ ?_
    rotate_left 1
    ·simp [go_sem, e49, cx, c0, c1, hna]
     try with_reducible rfl
    ·exact IsV.mk (w := w)
   ·intro A w hC hO hD
    have e50 := evD (hD 7 (by kernel_rfl) 50 rfl)
    obtain ⟨cx, c0, c1⟩ := hC
    clear hD hO
    refine head_val (o := ⟨_, _, _, _, _, _⟩) rfl ?_ rfl rfl ?_ ?_
    rotate_left 1
    ·simp [go_sem, e50, cx, c0, c1, hna]
     try with_reducible rfl
    ·exact IsV.mk (w := w)
   ·intro A w hC hO hD
    have e51 := evD (hD 8 (by kernel_rfl) 51 rfl)
    obtain ⟨cx, c0, c1⟩ := hC
    clear hD hO
    refine head_val (o := ⟨_, _, _, _, _, _⟩) rfl ?_ rfl rfl ?_ ?_
    rotate_left 1
    ·simp [go_sem, e51, cx, c0, c1, hna]
     try with_reducible rfl
    ·exact IsV.mk (w := w)
   ·intro A w hC hO hD
    have e0 := evO hO 0 rfl
    obtain ⟨cx, c0, c1⟩ := hC
    clear hD hO
    refine head_val (o := ⟨_, _, _, _, _, _⟩) rfl ?_ rfl rfl ?_ ?_
    rotate_left 1
    ·simp [go_sem, e0, cx, c0, c1, hna]
     try with_reducible rfl
    ·exact IsV.mk (w := w)
   ·intro A w hC hO hD
    have e53 := evD (hD 10 (by kernel_rfl) 53 rfl)
    obtain ⟨cx, c0, c1⟩ := hC
    clear hD hO
    refine head_val (o := ⟨_, _, _, _, _, _⟩) rfl ?_ rfl rfl ?_ ?_
    rotate_left 1
    ·simp [go_sem, e53, cx, c0, c1, hna]
     try with_reducible rfl
    ·exact IsV.mk (w := w)
   ·intro A w hC hO hD
    have e54 := evD (hD 11 (by kernel_rfl) 54 rfl)
    obtain ⟨cx, c0, c1⟩ := hC
    clear hD hO
    refine head_val (o := ⟨_, _, _, _, _, _⟩) rfl ?_ rfl rfl ?_ ?_
    rotate_left 1
    ·simp [go_sem, e54, cx, c0, c1, hna]
     try with_reducible rfl
    ·exact IsV.mk (w := w)
   ·intro A w hC hO hD
    have e55 := evD (hD 12 (by kernel_rfl) 55 rfl)
    obtain ⟨cx, c0, c1⟩ := hC
    clear hD hO
    refine head_val (o := ⟨_, _, _, _, _, _⟩) rfl ?_ rfl rfl ?_ ?_
    rotate_left 1
    ·simp [go_sem, e55, cx, c0, c1, hna]
     try with_reducible rfl
    ·exact IsV.mk (w := w)
   ·intro A w hC hO hD
    have e56 := evD (hD 13 (by kernel_rfl) 56 rfl)
    obtain ⟨cx, c0, c1⟩ := hC
    clear hD hO
    refine head_val (o := ⟨_, _, _, _, _, _⟩) rfl ?_ rfl rfl ?_ ?_
    rotate_left 1
    ·simp [go_sem, e56, cx, c0, c1, hna]
     try with_reducible rfl
    ·exact IsV.mk (w := w)
   ·intro A w hC hO hD
    have e47 := evD (hD 4 (by kernel_rfl) 47 rfl)
    have e52 := evD (hD 9 (by kernel_rfl) 52 rfl)
    have e57 := evD (hD 14 (by kernel_rfl) 57 rfl)
    obtain ⟨cx, c0, c1⟩ := hC
    clear hD hO
    refine head_val (o := ⟨_, _, _, _, _, _⟩) rfl ?_ rfl rfl ?_ ?_
    rotate_left 1
    ·simp [go_sem, e47, e52, e57, cx, c0, c1, hna]
     try with_reducible rfl
    ·exact IsV.mk (w := w)
   ·intro A w hC hO hD
    obtain ⟨cx, c0, c1⟩ := hC
    clear hD hO
    refine head_val (o := ⟨_, _, _, _, _, _⟩) rfl ?_ rfl rfl ?_ ?_
    rotate_left 1
    ·simp [go_sem, cx, c0, c1, hna]
     try with_reducible rfl
    ·exact IsV.mk (w := w)
   ·intro A w hC hO hD
    have e59 := evD (hD 16 (by kernel_rfl) 59 rfl)
    obtain ⟨cx, c0, c1⟩ := hC
    clear hD hO
    refine head_wp (o := ⟨_, _, _, _, _, _⟩) rfl rfl ?_
    simp [go_sem, e59]
    exact ⟨_, rfl, Ext.of_alloc _ _, _, rfl, Blk.new _ _ rfl rfl⟩
   ·intro A w hC hO hD
    have e58 := evD (hD 15 (by kernel_rfl) 58 rfl)
    have e60 := hD 17 (by kernel_rfl) 60 rfl
    rw [ev_tm] at e60
    obtain ⟨cx, c0, c1⟩ := hC
    clear hD hO
    refine head_wp (o := ⟨_, _, _, _, _, _⟩) rfl rfl ?_
    obtain ⟨q, e60, hq⟩ := e60
    refine ac_clip_op _ _ rfl ((ev_tm A 58).trans e58) (HA.out.of acE_len cx) _ 1 1 ((ev_tm A 60).trans e60) [((8 : Int), (0 : Int), zW)] rfl (by omega) (blk_news hq) (by omega) ?_
    intro v' r hown
    obtain ⟨av, cv, hsh⟩ := Own.shape hown
    exact ⟨v', rfl, ⟨r, rfl⟩, av, cv, by rw [hsh, List.length_append, ← HNn.out]; rfl, Own.mono hown cx.size⟩
   ·intro A w hC hO hD
    have e43 := evD (hD 0 (by kernel_rfl) 43 rfl)
    obtain ⟨cx, c0, c1⟩ := hC
    clear hD hO
    refine head_val (o := ⟨_, _, _, _, _, _⟩) rfl ?_ rfl rfl ?_ ?_
    rotate_left 1
    ·simp [go_sem, e43, cx, c0, c1, hna]
     try with_reducible rfl
    ·exact IsV.mk (w := w)
   ·intro A w hC hO hD
    have e62 := evD (hD 19 (by kernel_rfl) 62 rfl)
    obtain ⟨cx, c0, c1⟩ := hC
    clear hD hO
    refine head_val (o := ⟨_, _, _, _, _, _⟩) rfl ?_ rfl rfl ?_ ?_
    rotate_left 1
    ·simp [go_sem, e62, cx, c0, c1, hna]
     try with_reducible rfl
    ·exact IsV.mk (w := w)
   intro u wx hC hF
   obtain ⟨f0, f1, f2, f3, f4, f5, f6, f7, f8, f9, f10, f11, f12, f13, f14, f15, f16, f17, f18, f19, f20, _⟩ := hF
   have g0 : u 0 = _ := f0
   have g1 : u 1 = _ := f1
   have g2 : u 2 = _ := f2
   have g3 : u 3 = _ := f3
   have g4 : u 4 = _ := f4
   have g5 : u 5 = _ := f5
   have g6 : u 6 = _ := f6
   have g7 : u 7 = _ := f7
   have g8 : u 8 = _ := f8
   have g9 : u 9 = _ := f9
   have g10 : u 10 = _ := f10
   have g11 : u 11 = _ := f11
   have g12 : u 12 = _ := f12
   have g13 : u 13 = _ := f13
   have g14 : u 14 = _ := f14
   have g15 : u 15 = _ := f15
   have g16 : u 16 = _ := f16
   obtain ⟨v17, g17⟩ : ∃ v, u 17 = v := ⟨_, rfl⟩
   rw [g17] at f17
   obtain ⟨v18, g18⟩ : ∃ v, u 18 = v := ⟨_, rfl⟩
   rw [g18] at f18
   have g19 : u 19 = _ := f19
   have g20 : u 20 = _ := f20
   simp only [fPut, Nat.zero_add, Nat.reduceAdd, g0, g1, g2, g3, g4, g5, g6, g7, g8, g9, g10, g11, g12, g13, g14, g15, g16, g17, g18, g19, g20, Act.put, List.setIfInBounds_toArray, List.set_cons_zero, List.set_cons_succ, List.length_cons, List.length_nil, List.drop_succ_cons, List.drop_zero]
   clear g0 g1 g2 g3 g4 g5 g6 g7 g8 g9 g10 g11 g12 g13 g14 g15 g16 g17 g18 g19 g20 f0 f1 f2 f3 f4 f5 f6 f7 f8 f9 f10 f11 f12 f13 f14 f15 f16 f19 f20
   obtain ⟨av, cv, hv18, ho18⟩ := f18
   subst hv18
   have HXx := hid hC.1
   have HDx := hid (HD.out.of HXx.out)
   have HO := hid ho18
   have q0 := HDx.out.blk.2.2 9 _ rfl
   have q1 := HDx.out.blk.2.1 9
   have q2 := HDx.out.blk.1
   have q3 := HDx.out.blk.2.2 10 _ rfl
   have q4 := HDx.out.blk.2.1 10
   clear hC ho18 f17 l9 r10 f10
   go_wp2_with fail
   go_ret
   rw [HK.out]
   exact ⟨rfl, ⟨_, _, _, _, _, _, _, _, _, _, _, _, _, _, (HDx.out.acts9 (by rw [List.length_append, ← HNn.out]; rfl) (Own.sn acE_len HO.out HD.out.big)).stored10⟩, ((HG.out.trans (Grn.of_ext HXx.out)).setCell _ _).setCell _ _⟩
end Go.Proofs.YtdpbcfjfnclpiaaDoor
