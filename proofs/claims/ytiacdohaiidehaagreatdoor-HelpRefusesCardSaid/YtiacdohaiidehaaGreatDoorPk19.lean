/- The world of tasks: Alone, over any code. -/
import Derived.Test.YtiacdohaiidehaaGreatDoorPk18
namespace Go.Proofs.YtiacdohaiidehaaGreatDoor
set_option linter.unusedSimpArgs false
set_option linter.unusedVariables false
open Go.RowKit Go.Maps
theorem meas_next {most j jq : Nat} (h1 : j < most) (h2 : jq = j + 1) : most - (intOf (.int .i64 (jq : Int))).toNat < most - (intOf (.int .i64 (j : Int))).toNat := by
 simp only [intOf]; omega
def StepOk (K : CodeK) (q : Option Nat) (cr kd t ch : Int) (s s' : Mc × List (Tk K.C)) (bs bs' : List Bool) : Prop :=
 ∀ (W : World) (P : Nat → Prop) (v : Value), (∀ b, P b → b < W.heap.size) → WV K W P q cr v s.1 s.2 bs → Calls Tryz.prog 57 #[v, .agg #[.int .i64 kd, .int .i64 t, .int .i64 ch]] W fun e w' => ∃ v', e = .returned (.tuple #[v', .bool true]) ∧ Ext W w' ∧ WV K w' (fun b => P b ∨ W.heap.size ≤ b) q cr v' s'.1 s'.2 bs'
def StepNo (K : CodeK) (q : Option Nat) (cr kd t ch : Int) (s : Mc × List (Tk K.C)) (bs : List Bool) : Prop :=
 ∀ (W : World) (P : Nat → Prop) (v : Value), WV K W P q cr v s.1 s.2 bs → Calls Tryz.prog 57 #[v, .agg #[.int .i64 kd, .int .i64 t, .int .i64 ch]] W fun e w' => e = .returned (.tuple #[v, .bool false]) ∧ Ext W w'
set_option maxRecDepth 100000 in
set_option maxHeartbeats 2000000 in
theorem walone_any {K : CodeK} {w : World} {P : Nat → Prop} (hP : ∀ b, P b → b < w.heap.size) {pa va fa la sa ta ba : Option Addr} {pn pc vn vc fn fc ln lc sn sc tn tc bn bc : Nat} (q : Option Nat) (cr : Int) (M : Nat → Mc × List (Tk K.C)) {bs : List Bool}
 (h : WR K w P (.slice pa pn pc) (.slice va vn vc) (.slice fa fn fc) (.slice la ln lc) (.slice sa sn sc) (.slice ta tn tc) (.slice ba bn bc) (M 0).1 (M 0).2 bs) (t i : Nat) (hti : t = i + 1) (hil : i < (M 0).2.length) (h1000 : (M 0).2.length ≤ 1000) (hbl : bs.length ≤ 1000) (hst : bs[i]?.getD false = false) (most n : Nat) (hmost : most ≤ 1000000) (hnm : n ≤ most)
 (hstep : ∀ j, j < n → StepOk K q cr 0 t 0 (M j) (M (j + 1)) bs bs) (hend : n = most ∨ StepNo K q cr 0 t 0 (M n) bs) (k : Tk K.C) (hk : (M n).2[i]? = some k) :
 Calls Tryz.prog 21 #[.agg #[.slice pa pn pc, .slice va vn vc, .slice fa fn fc, .slice la ln lc, .map q, .slice sa sn sc, .int .i64 cr, .slice ta tn tc, .slice ba bn bc], .int .i64 t, .int .i64 most] w fun e w' => ∃ v', e = .returned (.tuple #[v', .bool k.d]) ∧ Ext w w' ∧ WV K w' (fun b => P b ∨ w.heap.size ≤ b) q cr v' (M n).1 (M n).2 bs := by
 have hn := h.2.1.len
 have H := hid h
 have HP := hid hP
 have HSt := hid hstep
 have HEn := hid hend
 have HKk := hid hk
 have h1 : ¬ (t : Int) < 1 := by omega
 have h1b : 1 ≤ (t : Int) := by omega
 have h2 : ¬ (tn : Int) < (t : Int) := by omega
 have h2b : (t : Int) ≤ (tn : Int) := by omega
 have hw1 : wrap64 ((t : Int) - 1) = (i : Int) := by rw [show (t : Int) - 1 = (i : Int) by omega]; exact IntWalk.wrap64_in _ (by omega)
 have HWRp := hid (show IntKind.i64.wrap ((t : Int) - 1) = (i : Int) by rw [show (t : Int) - 1 = (i : Int) by omega]; exact IntWalk.i64_in _ (by omega))
 have HMo := hid (And.intro hmost hnm)
 have hm0 : (if (most : Int) < 0 then 0 else (most : Int)) = (most : Int) := if_neg (by omega)
 have HSp := hid (fun (w' : World) (he : Ext w w') => wstopped_any (pa := pa) (va := va) (fa := fa) (la := la) (sa := sa) (ta := ta) (ba := ba) (pn := pn) (pc := pc) (vn := vn) (vc := vc) (fn := fn) (fc := fc) (ln := ln) (lc := lc) (sn := sn) (sc := sc) (tn := tn) (tc := tc) (bn := bn) (bc := bc) q cr (w := w') (h.2.2.of blE_len he) i hbl)
 rw [hst] at HSp
 clear h hP hti hil h1000 hbl hst hmost hnm hstep hend hk hn
 go_enter Tryz.func21, Tryz.ntmps21
 go_wp2_with fail
 refine (HSp.out _ (by exact exP)).mono ?_
 rintro e w1 ⟨rfl, r1, rfl⟩
 generalize hV_ : ext _ r1 = V
 have HE_V := hid (show Ext w V by rw [← hV_]; exact exP)
 have HB_b3 := hid (show Blk V (w.heap.size) [.slice pa pn pc, .slice va vn vc, .slice fa fn fc, .slice la ln lc, .map q, .slice sa sn sc, .int .i64 cr, .slice ta tn tc, .slice ba bn bc] by rw [← hV_]; exact bkP)
 have HB_b6 := hid (show Blk V (w.heap.size + 1) [.slice none 0 0, .slice none 0 0, .slice none 0 0, .slice none 0 0, .map none, .slice none 0 0, .int .i64 0, .slice none 0 0, .slice none 0 0] by rw [← hV_]; exact bkP)
 clear hV_
 obtain ⟨b6, hg_b6⟩ : ∃ g, g = w.heap.size + 1 := ⟨_, rfl⟩
 simp only [← hg_b6] at HB_b6 ⊢
 obtain ⟨b3, hg_b3⟩ : ∃ g, g = w.heap.size := ⟨_, rfl⟩
 simp only [← hg_b3] at HB_b3 ⊢
 have HN_V := hid (show b3 = w.heap.size ∧ b6 = w.heap.size + 1 ∧ b6 < V.heap.size from ⟨hg_b3, hg_b6, HB_b6.out.1⟩)
 clear hg_b3 hg_b6
 clear h1 h1b h2 h2b hw1
 go_wp2_with fail
 go_loopw [28] (fun i_ wr => ∃ j : Nat, j ≤ n ∧ i_ = .int .i64 j ∧ ∃ (pa1 va1 fa1 la1 sa1 ta1 ba1 : Option Addr) (pn1 pc1 vn1 vc1 fn1 fc1 ln1 lc1 sn1 sc1 tn1 tc1 bn1 bc1 : Nat), Hid (Blk wr b3 [.slice pa1 pn1 pc1, .slice va1 vn1 vc1, .slice fa1 fn1 fc1, .slice la1 ln1 lc1, .map q, .slice sa1 sn1 sc1, .int .i64 cr, .slice ta1 tn1 tc1, .slice ba1 bn1 bc1]) ∧ Hid (WR K wr (fun b => P b ∨ V.heap.size ≤ b) (.slice pa1 pn1 pc1) (.slice va1 vn1 vc1) (.slice fa1 fn1 fc1) (.slice la1 ln1 lc1) (.slice sa1 sn1 sc1) (.slice ta1 tn1 tc1) (.slice ba1 bn1 bc1) (M j).1 (M j).2 bs) ∧ Hid (GrL [b3] V wr)) (fun i_ _ => most - (intOf i_).toNat)
 case atStart => exact ⟨0, Nat.zero_le _, rfl, pa, va, fa, la, sa, ta, ba, pn, pc, vn, vc, fn, fc, ln, lc, sn, sc, tn, tc, bn, bc, HB_b3, hid ((H.out.of HE_V.out).imp (fun b hb => .inl hb)), hid GrL.refl⟩
 case round =>
  clear HB_b3
  obtain ⟨j, hjn, rfl, pa1, va1, fa1, la1, sa1, ta1, ba1, pn1, pc1, vn1, vc1, fn1, fc1, ln1, lc1, sn1, sc1, tn1, tc1, bn1, bc1, HB3, HWR, HG⟩ := hrel
  have HJn := hid hjn
  clear hjn
  by_cases hjm : j < most
  ·have hjm2 : (j : Int) < (most : Int) := by omega
   have HJm := hid hjm
   clear hjm
   obtain ⟨jq, hjq⟩ : ∃ x, x = j + 1 := ⟨_, rfl⟩
   have hwq : wrap64 ((j : Int) + 1) = (jq : Int) := by have := HMo.out; have := HJm.out; rw [IntWalk.wrap64_in _ (by omega)]; omega
   have HJq := hid hjq
   clear hjq
   have f0 := (HB3.out).2.2 0 _ rfl
   have f1 := (HB3.out).2.2 1 _ rfl
   have f2 := (HB3.out).2.2 2 _ rfl
   have f3 := (HB3.out).2.2 3 _ rfl
   have f4 := (HB3.out).2.2 4 _ rfl
   have f5 := (HB3.out).2.2 5 _ rfl
   have f6 := (HB3.out).2.2 6 _ rfl
   have f7 := (HB3.out).2.2 7 _ rfl
   have f8 := (HB3.out).2.2 8 _ rfl
   have ff := (HB3.out).2.1
   have fg := (HB3.out).1
   go_wp2_with fail
   have hb3w := HB3.out.1
   by_cases hjN : j = n
   ·have HNn := hjN
    have hno := HEn.out.resolve_left (by have := HJm.out; omega)
    rw [← HNn] at hno
    refine (hno wr _ _ ⟨_, _, _, _, _, _, _, _, _, _, _, _, _, _, _, _, _, _, _, _, _, rfl, HWR.out⟩).mono ?_
    rintro e w2 ⟨rfl, he⟩
    have HE2 := hid he
    have HB3' := hid (HB3.out.of he)
    have HG' := hid (HG.out.trans (GrL.of_ext he))
    have HWR' := hid (HWR.out.of he)
    clear hno he f0 f1 f2 f3 f4 f5 f6 f7 f8 ff fg hb3w hjN HB3 HG HWR
    have HB3 := HB3'
    have HG := HG'
    have HWR := HWR'
    clear HB3' HG' HWR'
    go_upto_region 9 with fail
    generalize hX_ : World.alloc _ _ = X
    have HEX := hid (show Ext w2 X by rw [← hX_]; exact exP)
    clear hX_
    have HB3' := hid (HB3.out.of HEX.out)
    have HG' := hid (HG.out.trans (GrL.of_ext HEX.out))
    have HWR' := hid (HWR.out.of HEX.out)
    clear HB3 HG HWR
    have HB3 := HB3'
    have HG := HG'
    have HWR := HWR'
    clear HB3' HG' HWR'
    obtain ⟨r, tb, tof, hta, htb, htp, htr, htc⟩ := HWR.out.2.1.at (by rw [HNn]; exact HKk.out)
    cases hta
    obtain ⟨cv, ⟨a0, d⟩, ga, gn, gc⟩ := r
    have hrd := htr.1
    dsimp only at hrd htc
    cases hrd
    obtain ⟨n0, hn0⟩ : ∃ n, n = nxV K.T cv k.d := ⟨_, rfl⟩
    obtain ⟨c0, hc0⟩ : ∃ n, n = Value.iface K.T cv := ⟨_, rfl⟩
    have HNx := hid (show (k.d = true ∧ n0 = .nilFunc) ∨ (k.d = false ∧ ∃ f x y, n0 = .func f x y) from by
     rw [hn0]; unfold nxV
     cases k.d
     ·exact .inr ⟨rfl, _, _, _, rfl⟩
     ·exact .inl ⟨rfl, rfl⟩)
    obtain ⟨a', ha'⟩ : ∃ x, x = if k.d = true then a8Z else k.a := ⟨_, rfl⟩
    unfold tkE at htc
    dsimp only at htc
    rw [← hn0, ← hc0, ← ha'] at htc
    obtain ⟨p1, p2, ⟨p3, p4, p5⟩, p6, p7, p8⟩ := a'
    have x0 := htc 0 (by omega)
    have x1 := htc 1 (by omega)
    have x2 := htc 2 (by omega)
    have x3 := htc 3 (by omega)
    have x4 := htc 4 (by omega)
    have x5 := htc 5 (by omega)
    have x6 := htc 6 (by omega)
    have x7 := htc 7 (by omega)
    have x8 := htc 8 (by omega)
    have x9 := htc 9 (by omega)
    have x10 := htc 10 (by omega)
    simp [tkL] at x0 x1 x2 x3 x4 x5 x6 x7 x8 x9 x10
    have hnl := HWR.out.2.1.len
    have hil : (i : Int) < (tn1 : Int) := by have h1 := (List.getElem?_eq_some_iff.1 HKk.out).1; rw [← HNn] at h1; omega
    have hwr := HWRp.out
    clear hn0 hc0 ha' htc htr htp hnl
    have f0 := (HB3.out).2.2 0 _ rfl
    have f1 := (HB3.out).2.2 1 _ rfl
    have f2 := (HB3.out).2.2 2 _ rfl
    have f3 := (HB3.out).2.2 3 _ rfl
    have f4 := (HB3.out).2.2 4 _ rfl
    have f5 := (HB3.out).2.2 5 _ rfl
    have f6 := (HB3.out).2.2 6 _ rfl
    have f7 := (HB3.out).2.2 7 _ rfl
    have f8 := (HB3.out).2.2 8 _ rfl
    have ff := (HB3.out).2.1
    have fg := (HB3.out).1
    have HL_ := hid (fun w' (h : Ext X w') => (And.intro (Nat.lt_of_lt_of_le fg h.size) (And.intro (Nat.lt_of_lt_of_le htb h.size) (And.intro (h.cell f0) (And.intro (h.cell f1) (And.intro (h.cell f2) (And.intro (h.cell f3) (And.intro (h.cell f4) (And.intro (h.cell f5) (And.intro (h.cell f6) (And.intro (h.cell f7) (And.intro (h.cell f8) (And.intro (h.cell x0) (And.intro (h.cell x1) (And.intro (h.cell x2) (And.intro (h.cell x3) (And.intro (h.cell x4) (And.intro (h.cell x5) (And.intro (h.cell x6) (And.intro (h.cell x7) (And.intro (h.cell x8) (And.intro (h.cell x9) (h.cell x10)))))))))))))))))))))))
    refine wp_region_facts [41, 42, 43, 44, 45, 46, 47, 48] [0, 1, 2, 3, 4, 5, 6, 7] rfl (fun w' => Ext X w') (fsAt [IsV ?_, IsV ?_, IsV ?_, IsV ?_, IsV ?_, IsV ?_, IsV ?_, IsV (.bool k.d)]) (by kernel_rfl) (by kernel_rfl) ((Ext.refl _).drew) (fun w w' h he => h.trans he) (aC (fun _ _ _ h _ => h) (aC (fun _ _ _ h _ => h) (aC (fun _ _ _ h _ => h) (aC (fun _ _ _ h _ => h) (aC (fun _ _ _ h _ => h) (aC (fun _ _ _ h _ => h) (aC (fun _ _ _ h _ => h) (aC (fun _ _ _ h _ => h) (AllOn.nil))))))))) (aC ?_ (aC ?_ (aC ?_ (aC ?_ (aC ?_ (aC ?_ (aC ?_ (aC ?_ (AllOn.nil))))))))) ?_
    rotate_left 7
    ·intro A w cx hO hD
     have e3 := evO hO 3 rfl
     clear hD hO
     refine hdV rfl ?_ rfl rfl ?_ ?_
     rotate_left 1
     ·simp [go_sem, e3, cx, HL_.out w cx, hwr, hil]
      try with_reducible rfl
     ·exact IsV.mk (w := w)
    ·intro A w cx hO hD
     have e3 := evO hO 3 rfl
     clear hD hO
     refine hdV rfl ?_ rfl rfl ?_ ?_
     rotate_left 1
     ·simp [go_sem, e3, cx, HL_.out w cx, hwr, hil]
      try with_reducible rfl
     ·exact IsV.mk (w := w)
    ·intro A w cx hO hD
     have e42 := evD (hD 1 (by kernel_rfl) 42 rfl)
     clear hD hO
     refine hdV rfl ?_ rfl rfl ?_ ?_
     rotate_left 1
     ·simp [go_sem, e42, cx, HL_.out w cx, hwr, hil]
      try with_reducible rfl
     ·exact IsV.mk (w := w)
    ·intro A w cx hO hD
     have e1 := evO hO 1 rfl
     clear hD hO
     refine hdV rfl ?_ rfl rfl ?_ ?_
     rotate_left 1
     ·simp [go_sem, e1, cx, HL_.out w cx, hwr, hil]
      try with_reducible rfl
     ·exact IsV.mk (w := w)
    ·intro A w cx hO hD
     have e44 := evD (hD 3 (by kernel_rfl) 44 rfl)
     clear hD hO
     refine hdV rfl ?_ rfl rfl ?_ ?_
     rotate_left 1
     ·simp [go_sem, e44, cx, HL_.out w cx, hwr, hil]
      try with_reducible rfl
     ·exact IsV.mk (w := w)
    ·intro A w cx hO hD
     have e43 := evD (hD 2 (by kernel_rfl) 43 rfl)
     have e45 := evD (hD 4 (by kernel_rfl) 45 rfl)
     clear hD hO
     refine hdV rfl ?_ rfl rfl ?_ ?_
     rotate_left 1
     ·simp [go_sem, e43, e45, cx, HL_.out w cx, hwr, hil]
      try with_reducible rfl
     ·exact IsV.mk (w := w)
    ·intro A w cx hO hD
     have e46 := evD (hD 5 (by kernel_rfl) 46 rfl)
     clear hD hO
     refine hdV rfl ?_ rfl rfl ?_ ?_
     rotate_left 1
     ·simp [go_sem, e46, cx, HL_.out w cx, hwr, hil]
      try with_reducible rfl
     ·exact IsV.mk (w := w)
    ·intro A w cx hO hD
     have e47 := evD (hD 6 (by kernel_rfl) 47 rfl)
     clear hD hO
     refine hdW rfl rfl ?_
     simp [go_sem, e47]
     refine (tdone_any c0 n0 k.d HNx.out ⟨p1, p2, (p3, p4, p5), (p6, p7, p8)⟩ ga gn gc _).mono ?_
     rintro e w' ⟨rfl, r', rfl⟩
     exact ⟨_, rfl, ⟨r', rfl⟩, rfl⟩
    intro u wx hC hF
    obtain ⟨f0, f1, f2, f3, f4, f5, f6, f7, _⟩ := hF
    have g0 : u 0 = _ := f0
    have g1 : u 1 = _ := f1
    have g2 : u 2 = _ := f2
    have g3 : u 3 = _ := f3
    have g4 : u 4 = _ := f4
    have g5 : u 5 = _ := f5
    have g6 : u 6 = _ := f6
    have g7 : u 7 = _ := f7
    simp only [fPut, Nat.zero_add, Nat.reduceAdd, g0, g1, g2, g3, g4, g5, g6, g7, Act.put, List.setIfInBounds_toArray, List.set_cons_zero, List.set_cons_succ, List.length_cons, List.length_nil, List.drop_succ_cons, List.drop_zero]
    clear g0 g1 g2 g3 g4 g5 g6 g7 f0 f1 f2 f3 f4 f5 f6 f7
    have HC := hid hC
    have h6 := (HB_b6.out.grl HG.out (by have := HN_V.out; simp; omega)).of hC
    have g0 := (h6).2.2 0 _ rfl
    have g1 := (h6).2.2 1 _ rfl
    have g2 := (h6).2.2 2 _ rfl
    have g3 := (h6).2.2 3 _ rfl
    have g4 := (h6).2.2 4 _ rfl
    have g5 := (h6).2.2 5 _ rfl
    have g6 := (h6).2.2 6 _ rfl
    have g7 := (h6).2.2 7 _ rfl
    have g8 := (h6).2.2 8 _ rfl
    have gf := (h6).2.1
    have gg := (h6).1
    clear hC h6 f0 f1 f2 f3 f4 f5 f6 f7 f8 ff fg x0 x1 x2 x3 x4 x5 x6 x7 x8 x9 x10
    (repeat (first | go_values | go_skip | go_guarded | go_step | go_upon | (simp only [Int.not_lt, Int.not_le] at *; go_simp) | (go_ite <;> go_prune <;> (try go_simp))))
    refine bodyPost_ret (v := .tuple #[.agg #[.slice pa1 pn1 pc1, .slice va1 vn1 vc1, .slice fa1 fn1 fc1, .slice la1 ln1 lc1, .map q, .slice sa1 sn1 sc1, .int .i64 cr, .slice (some ⟨tb, tof, none⟩) tn1 tc1, .slice ba1 bn1 bc1], .bool k.d]) (by simp [results, Tryz.results21, go_sem, g0, g1, g2, g3, g4, g5, g6, g7, g8, gf, gg]) rfl ⟨_, rfl, ?_⟩
    generalize hZ_ : World.setCell _ _ _ = Z
    have hgz : GrL [b6] wx Z := by rw [← hZ_]; exact glP
    clear hZ_
    have hwv := (show WR K X _ _ _ _ _ _ _ _ _ _ _ from HWR.out)
    rw [HNn] at hwv
    have hsz := HG.out.size
    have hcs := HC.out.size
    have hwz := HE_V.out.size
    have hnv := HN_V.out
    refine ⟨((HE_V.out.grl HG.out (by simp; omega)).trans HC.out).grl hgz (by simp; omega), (WV.kp (WV.bnd (w := X) ⟨_, _, _, _, _, _, _, _, _, _, _, _, _, _, _, _, _, _, _, _, _, rfl, hwv⟩) ((KpB.of_ext HC.out).trans (hgz.kp (fun g hg h => ?_)))).imp (fun b h => h.1.imp id (fun h => Nat.le_trans hwz h))⟩
    simp only [List.mem_cons, List.not_mem_nil, or_false] at hg
    subst hg
    rcases h.1 with h | h
    ·have := HP.out _ h; omega
    ·omega
   ·have hjl : j < n := by have := HJn.out; omega
    have hgo := HSt.out j hjl
    refine (hgo wr _ _ (fun b h => h.2) (WV.bnd ⟨_, _, _, _, _, _, _, _, _, _, _, _, _, _, _, _, _, _, _, _, _, rfl, HWR.out⟩)).mono ?_
    rintro e w2 ⟨v', rfl, he, hv⟩
    obtain ⟨pa2, va2, fa2, la2, sa2, ta2, ba2, pn2, pc2, vn2, vc2, fn2, fc2, ln2, lc2, sn2, sc2, tn2, tc2, bn2, bc2, rfl, hv⟩ := hv
    have HE2 := hid he
    have HW2 := hid hv
    have HJl := hid hjl
    have h3 := HB3.out.of he
    clear he hv f0 f1 f2 f3 f4 f5 f6 f7 f8 ff fg hb3w hjN hjl hgo
    have f0 := (h3).2.2 0 _ rfl
    have f1 := (h3).2.2 1 _ rfl
    have f2 := (h3).2.2 2 _ rfl
    have f3 := (h3).2.2 3 _ rfl
    have f4 := (h3).2.2 4 _ rfl
    have f5 := (h3).2.2 5 _ rfl
    have f6 := (h3).2.2 6 _ rfl
    have f7 := (h3).2.2 7 _ rfl
    have f8 := (h3).2.2 8 _ rfl
    have ff := (h3).2.1
    have fg := (h3).1
    clear h3
    go_upto_region 7 with fail
    generalize hV_ : World.alloc _ _ = X
    have HE_X := hid (show Ext w2 X by rw [← hV_]; exact exP)
    have HB_b8 := hid (show Blk X (w2.heap.size) [.slice pa2 pn2 pc2, .slice va2 vn2 vc2, .slice fa2 fn2 fc2, .slice la2 ln2 lc2, .map q, .slice sa2 sn2 sc2, .int .i64 cr, .slice ta2 tn2 tc2, .slice ba2 bn2 bc2] by rw [← hV_]; exact bkP)
    clear hV_
    obtain ⟨b8, hg_b8⟩ : ∃ g, g = w2.heap.size := ⟨_, rfl⟩
    simp only [← hg_b8] at HB_b8 ⊢
    have HN_X := hid (show b8 = w2.heap.size ∧ b8 < X.heap.size from ⟨hg_b8, HB_b8.out.1⟩)
    clear hg_b8
    have h3 := HB3.out.of (HE2.out.trans HE_X.out)
    clear f0 f1 f2 f3 f4 f5 f6 f7 f8 ff fg
    have f0 := (h3).2.2 0 _ rfl
    have f1 := (h3).2.2 1 _ rfl
    have f2 := (h3).2.2 2 _ rfl
    have f3 := (h3).2.2 3 _ rfl
    have f4 := (h3).2.2 4 _ rfl
    have f5 := (h3).2.2 5 _ rfl
    have f6 := (h3).2.2 6 _ rfl
    have f7 := (h3).2.2 7 _ rfl
    have f8 := (h3).2.2 8 _ rfl
    have ff := (h3).2.1
    have fg := (h3).1
    have g0 := (HB_b8.out).2.2 0 _ rfl
    have g1 := (HB_b8.out).2.2 1 _ rfl
    have g2 := (HB_b8.out).2.2 2 _ rfl
    have g3 := (HB_b8.out).2.2 3 _ rfl
    have g4 := (HB_b8.out).2.2 4 _ rfl
    have g5 := (HB_b8.out).2.2 5 _ rfl
    have g6 := (HB_b8.out).2.2 6 _ rfl
    have g7 := (HB_b8.out).2.2 7 _ rfl
    have g8 := (HB_b8.out).2.2 8 _ rfl
    have gf := (HB_b8.out).2.1
    have gg := (HB_b8.out).1
    have HB3x := hid h3
    clear h3
    have HWX := hid (HW2.out.of HE_X.out)
    go_upto_region 8 with fail
    generalize hZ_ : World.setCell _ _ _ = Z
    have HGZ := hid (show GrL [b3] X Z by rw [← hZ_]; exact glP)
    have HBZ := hid (show Blk Z b3 [.slice pa2 pn2 pc2, .slice va2 vn2 vc2, .slice fa2 fn2 fc2, .slice la2 ln2 lc2, .map q, .slice sa2 sn2 sc2, .int .i64 cr, .slice ta2 tn2 tc2, .slice ba2 bn2 bc2] by rw [← hZ_]; have h3 := HB3x.out; exact bcP)
    clear hZ_ f0 f1 f2 f3 f4 f5 f6 f7 f8 ff fg g0 g1 g2 g3 g4 g5 g6 g7 g8 gf gg
    go_wp2_with fail
    go_roundw
    case rel =>
     have hgz := HGZ.out
     have hbz := HBZ.out
     have hwz := HE_V.out.size
     have hnv := HN_V.out
     have hgs := HG.out.size
     refine ⟨jq, by have := HJq.out; have := HJl.out; omega, by rw [hwq], _, _, _, _, _, _, _, _, _, _, _, _, _, _, _, _, _, _, _, _, _, hid hbz, ?_, hid ((HG.out.trans (GrL.of_ext (HE2.out.trans HE_X.out))).trans hgz)⟩
     rw [HJq.out]
     refine hid ((HWX.out.bnd.kp (hgz.kp (fun g hg h => ?_))).imp (fun b h => ?_))
     ·simp only [List.mem_cons, List.not_mem_nil, or_false] at hg
      subst hg
      have hb3w := HB3.out.1
      rcases h.1 with h | h
      ·rcases h.1 with h | h
       ·have := HP.out _ h; omega
       ·omega
      ·omega
     ·rcases h.1 with h | h
      ·exact h.1
      ·exact .inr (Nat.le_trans hgs h)
    case measure => rw [hwq]; exact meas_next HJm.out HJq.out
  ·have HNn : j = n := by have := HMo.out; have := HJn.out; omega
   have hjm2 : ¬ (j : Int) < (most : Int) := by omega
   have hjm3 : (most : Int) ≤ (j : Int) := by omega
   clear hjm
   go_upto_region 9 with fail
   obtain ⟨r, tb, tof, hta, htb, htp, htr, htc⟩ := HWR.out.2.1.at (by rw [HNn]; exact HKk.out)
   cases hta
   obtain ⟨cv, ⟨a0, d⟩, ga, gn, gc⟩ := r
   have hrd := htr.1
   dsimp only at hrd htc
   cases hrd
   obtain ⟨n0, hn0⟩ : ∃ n, n = nxV K.T cv k.d := ⟨_, rfl⟩
   obtain ⟨c0, hc0⟩ : ∃ n, n = Value.iface K.T cv := ⟨_, rfl⟩
   have HNx := hid (show (k.d = true ∧ n0 = .nilFunc) ∨ (k.d = false ∧ ∃ f x y, n0 = .func f x y) from by
    rw [hn0]; unfold nxV
    cases k.d
    ·exact .inr ⟨rfl, _, _, _, rfl⟩
    ·exact .inl ⟨rfl, rfl⟩)
   obtain ⟨a', ha'⟩ : ∃ x, x = if k.d = true then a8Z else k.a := ⟨_, rfl⟩
   unfold tkE at htc
   dsimp only at htc
   rw [← hn0, ← hc0, ← ha'] at htc
   obtain ⟨p1, p2, ⟨p3, p4, p5⟩, p6, p7, p8⟩ := a'
   have x0 := htc 0 (by omega)
   have x1 := htc 1 (by omega)
   have x2 := htc 2 (by omega)
   have x3 := htc 3 (by omega)
   have x4 := htc 4 (by omega)
   have x5 := htc 5 (by omega)
   have x6 := htc 6 (by omega)
   have x7 := htc 7 (by omega)
   have x8 := htc 8 (by omega)
   have x9 := htc 9 (by omega)
   have x10 := htc 10 (by omega)
   simp [tkL] at x0 x1 x2 x3 x4 x5 x6 x7 x8 x9 x10
   have hnl := HWR.out.2.1.len
   have hil : (i : Int) < (tn1 : Int) := by have h1 := (List.getElem?_eq_some_iff.1 HKk.out).1; rw [← HNn] at h1; omega
   have hwr := HWRp.out
   clear hn0 hc0 ha' htc htr htp hnl
   have f0 := (HB3.out).2.2 0 _ rfl
   have f1 := (HB3.out).2.2 1 _ rfl
   have f2 := (HB3.out).2.2 2 _ rfl
   have f3 := (HB3.out).2.2 3 _ rfl
   have f4 := (HB3.out).2.2 4 _ rfl
   have f5 := (HB3.out).2.2 5 _ rfl
   have f6 := (HB3.out).2.2 6 _ rfl
   have f7 := (HB3.out).2.2 7 _ rfl
   have f8 := (HB3.out).2.2 8 _ rfl
   have ff := (HB3.out).2.1
   have fg := (HB3.out).1
   have HL_ := hid (fun w' (h : Ext wr w') => (And.intro (Nat.lt_of_lt_of_le fg h.size) (And.intro (Nat.lt_of_lt_of_le htb h.size) (And.intro (h.cell f0) (And.intro (h.cell f1) (And.intro (h.cell f2) (And.intro (h.cell f3) (And.intro (h.cell f4) (And.intro (h.cell f5) (And.intro (h.cell f6) (And.intro (h.cell f7) (And.intro (h.cell f8) (And.intro (h.cell x0) (And.intro (h.cell x1) (And.intro (h.cell x2) (And.intro (h.cell x3) (And.intro (h.cell x4) (And.intro (h.cell x5) (And.intro (h.cell x6) (And.intro (h.cell x7) (And.intro (h.cell x8) (And.intro (h.cell x9) (h.cell x10)))))))))))))))))))))))
   refine wp_region_facts [41, 42, 43, 44, 45, 46, 47, 48] [0, 1, 2, 3, 4, 5, 6, 7] rfl (fun w' => Ext wr w') (fsAt [IsV ?_, IsV ?_, IsV ?_, IsV ?_, IsV ?_, IsV ?_, IsV ?_, IsV (.bool k.d)]) (by kernel_rfl) (by kernel_rfl) ((Ext.refl _).drew) (fun w w' h he => h.trans he) (aC (fun _ _ _ h _ => h) (aC (fun _ _ _ h _ => h) (aC (fun _ _ _ h _ => h) (aC (fun _ _ _ h _ => h) (aC (fun _ _ _ h _ => h) (aC (fun _ _ _ h _ => h) (aC (fun _ _ _ h _ => h) (aC (fun _ _ _ h _ => h) (AllOn.nil))))))))) (aC ?_ (aC ?_ (aC ?_ (aC ?_ (aC ?_ (aC ?_ (aC ?_ (aC ?_ (AllOn.nil))))))))) ?_
   rotate_left 7
   ·intro A w cx hO hD
    have e3 := evO hO 3 rfl
    clear hD hO
    refine hdV rfl ?_ rfl rfl ?_ ?_
    rotate_left 1
    ·simp [go_sem, e3, cx, HL_.out w cx, hwr, hil]
     try with_reducible rfl
    ·exact IsV.mk (w := w)
   ·intro A w cx hO hD
    have e3 := evO hO 3 rfl
    clear hD hO
    refine hdV rfl ?_ rfl rfl ?_ ?_
    rotate_left 1
    ·simp [go_sem, e3, cx, HL_.out w cx, hwr, hil]
     try with_reducible rfl
    ·exact IsV.mk (w := w)
   ·intro A w cx hO hD
    have e42 := evD (hD 1 (by kernel_rfl) 42 rfl)
    clear hD hO
    refine hdV rfl ?_ rfl rfl ?_ ?_
    rotate_left 1
    ·simp [go_sem, e42, cx, HL_.out w cx, hwr, hil]
     try with_reducible rfl
    ·exact IsV.mk (w := w)
   ·intro A w cx hO hD
    have e1 := evO hO 1 rfl
    clear hD hO
    refine hdV rfl ?_ rfl rfl ?_ ?_
    rotate_left 1
    ·simp [go_sem, e1, cx, HL_.out w cx, hwr, hil]
     try with_reducible rfl
    ·exact IsV.mk (w := w)
   ·intro A w cx hO hD
    have e44 := evD (hD 3 (by kernel_rfl) 44 rfl)
    clear hD hO
    refine hdV rfl ?_ rfl rfl ?_ ?_
    rotate_left 1
    ·simp [go_sem, e44, cx, HL_.out w cx, hwr, hil]
     try with_reducible rfl
    ·exact IsV.mk (w := w)
   ·intro A w cx hO hD
    have e43 := evD (hD 2 (by kernel_rfl) 43 rfl)
    have e45 := evD (hD 4 (by kernel_rfl) 45 rfl)
    clear hD hO
    refine hdV rfl ?_ rfl rfl ?_ ?_
    rotate_left 1
    ·simp [go_sem, e43, e45, cx, HL_.out w cx, hwr, hil]
     try with_reducible rfl
    ·exact IsV.mk (w := w)
   ·intro A w cx hO hD
    have e46 := evD (hD 5 (by kernel_rfl) 46 rfl)
    clear hD hO
    refine hdV rfl ?_ rfl rfl ?_ ?_
    rotate_left 1
    ·simp [go_sem, e46, cx, HL_.out w cx, hwr, hil]
     try with_reducible rfl
    ·exact IsV.mk (w := w)
   ·intro A w cx hO hD
    have e47 := evD (hD 6 (by kernel_rfl) 47 rfl)
    clear hD hO
    refine hdW rfl rfl ?_
    simp [go_sem, e47]
    refine (tdone_any c0 n0 k.d HNx.out ⟨p1, p2, (p3, p4, p5), (p6, p7, p8)⟩ ga gn gc _).mono ?_
    rintro e w' ⟨rfl, r', rfl⟩
    exact ⟨_, rfl, ⟨r', rfl⟩, rfl⟩
   intro u wx hC hF
   obtain ⟨f0, f1, f2, f3, f4, f5, f6, f7, _⟩ := hF
   have g0 : u 0 = _ := f0
   have g1 : u 1 = _ := f1
   have g2 : u 2 = _ := f2
   have g3 : u 3 = _ := f3
   have g4 : u 4 = _ := f4
   have g5 : u 5 = _ := f5
   have g6 : u 6 = _ := f6
   have g7 : u 7 = _ := f7
   simp only [fPut, Nat.zero_add, Nat.reduceAdd, g0, g1, g2, g3, g4, g5, g6, g7, Act.put, List.setIfInBounds_toArray, List.set_cons_zero, List.set_cons_succ, List.length_cons, List.length_nil, List.drop_succ_cons, List.drop_zero]
   clear g0 g1 g2 g3 g4 g5 g6 g7 f0 f1 f2 f3 f4 f5 f6 f7
   have HC := hid hC
   have h6 := (HB_b6.out.grl HG.out (by have := HN_V.out; simp; omega)).of hC
   have g0 := (h6).2.2 0 _ rfl
   have g1 := (h6).2.2 1 _ rfl
   have g2 := (h6).2.2 2 _ rfl
   have g3 := (h6).2.2 3 _ rfl
   have g4 := (h6).2.2 4 _ rfl
   have g5 := (h6).2.2 5 _ rfl
   have g6 := (h6).2.2 6 _ rfl
   have g7 := (h6).2.2 7 _ rfl
   have g8 := (h6).2.2 8 _ rfl
   have gf := (h6).2.1
   have gg := (h6).1
   clear hC h6 f0 f1 f2 f3 f4 f5 f6 f7 f8 ff fg x0 x1 x2 x3 x4 x5 x6 x7 x8 x9 x10
   (repeat (first | go_values | go_skip | go_guarded | go_step | go_upon | (simp only [Int.not_lt, Int.not_le] at *; go_simp) | (go_ite <;> go_prune <;> (try go_simp))))
   refine bodyPost_ret (v := .tuple #[.agg #[.slice pa1 pn1 pc1, .slice va1 vn1 vc1, .slice fa1 fn1 fc1, .slice la1 ln1 lc1, .map q, .slice sa1 sn1 sc1, .int .i64 cr, .slice (some ⟨tb, tof, none⟩) tn1 tc1, .slice ba1 bn1 bc1], .bool k.d]) (by simp [results, Tryz.results21, go_sem, g0, g1, g2, g3, g4, g5, g6, g7, g8, gf, gg]) rfl ⟨_, rfl, ?_⟩
   generalize hZ_ : World.setCell _ _ _ = Z
   have hgz : GrL [b6] wx Z := by rw [← hZ_]; exact glP
   clear hZ_
   have hwv := (show WR K wr _ _ _ _ _ _ _ _ _ _ _ from HWR.out)
   rw [HNn] at hwv
   have hsz := HG.out.size
   have hcs := HC.out.size
   have hwz := HE_V.out.size
   have hnv := HN_V.out
   refine ⟨((HE_V.out.grl HG.out (by simp; omega)).trans HC.out).grl hgz (by simp; omega), (WV.kp (WV.bnd (w := wr) ⟨_, _, _, _, _, _, _, _, _, _, _, _, _, _, _, _, _, _, _, _, _, rfl, hwv⟩) ((KpB.of_ext HC.out).trans (hgz.kp (fun g hg h => ?_)))).imp (fun b h => h.1.imp id (fun h => Nat.le_trans hwz h))⟩
   simp only [List.mem_cons, List.not_mem_nil, or_false] at hg
   subst hg
   rcases h.1 with h | h
   ·have := HP.out _ h; omega
   ·omega
end Go.Proofs.YtiacdohaiidehaaGreatDoor
