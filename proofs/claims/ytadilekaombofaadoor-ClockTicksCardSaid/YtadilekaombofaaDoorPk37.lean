/- The clock's law: awake. -/
import Derived.Test.YtadilekaombofaaDoorPk36
namespace Go.Proofs.YtadilekaombofaaDoor
set_option linter.unusedSimpArgs false
set_option linter.unusedVariables false
open Go.RowKit Go.Maps
theorem tsteps_any (c0 n0 : Value) (a : A8) (ga : Option Addr) (gn gc : Nat) (w : World) :
 Calls Tryd.prog 11 #[.agg (tkL c0 n0 a ga gn gc).toArray] w fun e w' => e = .returned (.int .i64 gn) ∧ ∃ r, w' = ext w r := by
 go_enter Tryd.func11, Tryd.ntmps11
 go_wp2_with fail
 go_ret
 exact ⟨rfl, by (show Ext _ _; repeat first | (with_reducible first | (refine xH ?_; assumption) | exact xR _ | refine xX ?_ _ | refine xA ?_ _) | refine xD ?_ | refine xN ?_ _ | exact xR _)⟩
theorem w01 : wrap64 (0 + 1) = 1 := (IntWalk.wrap64_in (0 + 1) (by omega)).trans (by decide)
theorem stepck {m : Mc} {c : Wd} {n : Nat} (hg : G26 m c n) (hn : n ≤ 5000) {ts : List (Tk ckK.C)} (htl : ts.length ≤ 3) {bs : List Bool} (hbl : bs.length ≤ 1000) (i : Nat) (k : Tk ckK.C) (hk : ts[i]? = some k) (hs : bs[i]?.getD false = false) (hd : k.d = false) (hkg : k.g.length ≤ 10000) (h0 : k.a.at_ = 0) (hop : k.a.op = 5 ∨ k.a.op = 6) (ch : Int) :
 ∃ m', G26 m' (cl26 k.a c) (n + 1) ∧ StepOk ckK none 0 0 ((i + 1 : Nat) : Int) ch (m, ts) (m', ts.set i (tkNext ckK k (got26 k.a c))) bs bs := by
 have hi := (List.getElem?_eq_some_iff.1 hk).1
 obtain ⟨m', h1, h2⟩ := do26 hg (by omega) i (by omega) k.a h0 hop none 0 ch
 exact ⟨m', h1, step_go_ok (by rw [hg.vn]; omega) (by omega) hbl ch (i + 1) i rfl k hk hs hd (by omega) (got26 k.a c) trivial m' h2⟩
def tk26a (v : Int) : Tk ckK.C := ⟨(⟨0, true, 2, 0⟩ : Ck), ⟨6, 0, (v, 0, 0), (wrap64 (v + 1), 0, 0)⟩, false, [((v, 0, 0), true)]⟩
def tk26b (v : Int) : Tk ckK.C := ⟨(⟨0, true, 3, wrap64 (v + 1)⟩ : Ck), a8Z, true, [((v, 0, 0), true), ((v, 0, 0), true)]⟩
theorem tk26_0 : tkStart ckK (ck0 true) = ⟨(⟨0, true, 1, 0⟩ : Ck), ⟨5, 0, (0, 0, 0), (0, 0, 0)⟩, false, []⟩ := rfl
theorem tk26_1 (v : Int) : tkNext ckK (tkStart ckK (ck0 true)) (got26 (tkStart ckK (ck0 true)).a (v, 0, 0)) = tk26a v := rfl
theorem tk26_2 (v : Int) : tkNext ckK (tk26a v) (got26 (tk26a v).a (v, 0, 0)) = tk26b v := by
 simp [tkNext, got26, tk26a, tk26b, ckNext]
theorem cl26_2 (v : Int) : cl26 (tk26a v).a (v, 0, 0) = (wrap64 (v + 1), 0, 0) := by simp [cl26, tk26a]
theorem awake_run : ∃ m1 m2, G26 m2 (1, 0, 0) 2 ∧ StepOk ckK none 0 0 ((0 + 1 : Nat) : Int) 0 (mc26 0, [tkStart ckK (ck0 true)]) (m1, [tk26a 0]) [false] [false] ∧ StepOk ckK none 0 0 ((0 + 1 : Nat) : Int) 0 (m1, [tk26a 0]) (m2, [tk26b 0]) [false] [false] := by
 obtain ⟨m1, h1, h2⟩ := stepck (mc26_good 0) (by omega) (ts := [tkStart ckK (ck0 true)]) (by simp) (bs := [false]) (by simp) 0 _ rfl rfl rfl (by simp [tk26_0]) rfl (.inl rfl) 0
 rw [tk26_1] at h2
 obtain ⟨m2, h3, h4⟩ := stepck h1 (by omega) (ts := [tk26a 0]) (by simp) (bs := [false]) (by simp) 0 _ rfl rfl rfl (by simp [tk26a]) rfl (.inr rfl) 0
 have hc : cl26 (tkStart ckK (ck0 true)).a (0, 0, 0) = (0, 0, 0) := rfl
 rw [hc] at h3 h4
 rw [tk26_2] at h4
 rw [cl26_2, w01] at h3
 exact ⟨m1, m2, h3, h2, h4⟩
set_option maxRecDepth 100000 in
set_option maxHeartbeats 2000000 in
theorem awake26_any {w : World} (hs : Szs w) : Calls Tryd.prog 4 #[] w fun e w' => e = .returned (.bool true) ∧ Ext w w' := by
 obtain ⟨m1, m2, hg2, hs1, hs2⟩ := awake_run
 have HS := hid hs
 have HG2 := hid hg2
 have HS1 := hid hs1
 have HS2 := hid hs2
 clear hs hg2 hs1 hs2
 go_enter Tryd.func4, Tryd.ntmps4
 go_wp2_with fail
 refine (start26_any (HS.out.of (by (show Ext _ _; repeat first | (with_reducible first | (refine xH ?_; assumption) | exact xR _ | refine xX ?_ _ | refine xA ?_ _) | refine xD ?_ | refine xN ?_ _ | exact xR _))) 0 (l := [true]) (sl_blk blE_len (Blk.new _ _ rfl rfl) (by simp) (by simp)) (by simp)).mono ?_
 rintro e w1 ⟨v1, rfl, he, hv⟩
 have HE_1 := hid (Ext.trans (show Ext w _ by (show Ext _ _; repeat first | (with_reducible first | (refine xH ?_; assumption) | exact xR _ | refine xX ?_ _ | refine xA ?_ _) | refine xD ?_ | refine xN ?_ _ | exact xR _)) he)
 clear he
 obtain ⟨pa, va, fa, la, sa, ta, ba, pn, pc, vn, vc, fn, fc, ln, lc, sn, sc, tn, tc, bn, bc, rfl, hw⟩ := hv
 have HW := hid (WR.imp (P' := fun b => w.heap.size ≤ b) hw (fun b h => by simp at h; omega))
 clear hw
 go_wp2_with fail
 generalize hV_ : World.alloc _ _ = X
 have HE_X := hid (show Ext w1 X by rw [← hV_]; (show Ext _ _; repeat first | (with_reducible first | (refine xH ?_; assumption) | exact xR _ | refine xX ?_ _ | refine xA ?_ _) | refine xD ?_ | refine xN ?_ _ | exact xR _))
 have HB_b1 := hid (show Blk X (w1.heap.size) [.slice pa pn pc, .slice va vn vc, .slice fa fn fc, .slice la ln lc, .map none, .slice sa sn sc, .int .i64 0, .slice ta tn tc, .slice ba bn bc] by rw [← hV_]; (show Blk _ _ _; repeat first | (with_reducible first | (refine xH ?_; assumption) | refine bD ?_ | refine bX ?_ _) | (with_reducible refine bN _ _ rfl ?_; first | with_reducible rfl | (simp; done)) | (with_reducible first | refine bA ?_ _ | assumption | apply bS) | (with_reducible refine bO ?_ ?_; first | omega | (simp; omega)) | (show List.set _ _ _ = _; exact rfl) | (show _ < List.length _; simp; done)))
 clear hV_
 obtain ⟨b1, hg_b1⟩ : ∃ g, g = w1.heap.size := ⟨_, rfl⟩
 simp only [← hg_b1] at HB_b1 ⊢
 have HN_X := hid (show b1 = w1.heap.size ∧ b1 < X.heap.size from ⟨hg_b1, HB_b1.out.1⟩)
 clear hg_b1
 obtain ⟨M, hM⟩ : ∃ M : Nat → Mc × List (Tk ckK.C), M = fun j => if j = 0 then (mc26 0, [tkStart ckK (ck0 true)]) else if j = 1 then (m1, [tk26a 0]) else (m2, [tk26b 0]) := ⟨_, rfl⟩
 have hM0 : M 0 = (mc26 0, [tkStart ckK (ck0 true)]) := by rw [hM]; rfl
 have hM1 : M 1 = (m1, [tk26a 0]) := by rw [hM]; rfl
 have hM2 : M 2 = (m2, [tk26b 0]) := by rw [hM]; rfl
 have HM2 := hid hM2
 refine (walone_any (K := ckK) (w := X) (P := fun b => w.heap.size ≤ b ∧ b < w1.heap.size) (fun b h => by have := HN_X.out; omega) none 0 M (bs := [false]) (by rw [hM0]; exact HW.out.bnd.of HE_X.out) (0 + 1) 0 rfl (by rw [hM0]; simp) (by rw [hM0]; simp) (by simp) rfl 2 2 (by omega) (by omega) (fun j hj => ?_) (.inl rfl) (tk26b 0) (by rw [hM2]; rfl)).mono ?_
 ·have hj2 : j = 0 ∨ j = 1 := by omega
  rcases hj2 with rfl | rfl
  ·rw [hM0, hM1]; exact HS1.out
  ·rw [hM1, hM2]; exact HS2.out
 clear hM hM0 hM1 hM2
 rintro e w2 ⟨v2, rfl, he, hv⟩
 rw [HM2.out] at hv
 rw [show (tk26b 0).d = true from rfl]
 obtain ⟨pa1, va1, fa1, la1, sa1, ta1, ba1, pn1, pc1, vn1, vc1, fn1, fc1, ln1, lc1, sn1, sc1, tn1, tc1, bn1, bc1, rfl, hw⟩ := hv
 have HW2 := hid hw
 have HE_2 := hid he
 have h1 := HB_b1.out.of he
 clear hw he
 have a0 := (h1).2.2 0 _ rfl
 have a1 := (h1).2.2 1 _ rfl
 have a2 := (h1).2.2 2 _ rfl
 have a3 := (h1).2.2 3 _ rfl
 have a4 := (h1).2.2 4 _ rfl
 have a5 := (h1).2.2 5 _ rfl
 have a6 := (h1).2.2 6 _ rfl
 have a7 := (h1).2.2 7 _ rfl
 have a8 := (h1).2.2 8 _ rfl
 have af := (h1).2.1
 have ag := (h1).1
 clear h1
 go_upto_region 3 with fail
 have hn_ := HN_X.out
 have h_b1 := (HB_b1.out.of HE_2.out)
 generalize hV_ : World.setCell _ _ _ = Y
 have HG_Y := hid (show GrL [b1] w2 Y by rw [← hV_]; (show GrL _ _ _; repeat (first | with_reducible exact GrL.refl | ((with_reducible refine GrL.set ?_ ?_ _); rotate_left 1; focus (simp; done)) | ((with_reducible refine GrL.ext ?_ _)) | ((with_reducible refine GrL.alloc ?_ _)) | ((with_reducible refine GrL.drew ?_)))))
 have hz_b1 := hid (show Blk Y b1 [.slice pa1 pn1 pc1, .slice va1 vn1 vc1, .slice fa1 fn1 fc1, .slice la1 ln1 lc1, .map none, .slice sa1 sn1 sc1, .int .i64 0, .slice ta1 tn1 tc1, .slice ba1 bn1 bc1] by rw [← hV_]; (show Blk _ _ _; (with_reducible apply Blk.cast); (repeat first | (with_reducible first | (refine xH ?_; assumption) | assumption | apply bD | apply bX | apply bA | apply Blk.set) | ((with_reducible apply bO); first | omega | (simp; omega))); all_goals (first | rfl | (simp; done))))
 clear hV_ h_b1
 clear HB_b1
 have HB_b1 := hz_b1
 clear hz_b1
 clear hn_
 clear a0 a1 a2 a3 a4 a5 a6 a7 a8 af ag HW HM2
 have HWY := hid ((HW2.out.bnd.kp (HG_Y.out.kp (fun g hg h => by
  simp only [List.mem_cons, List.not_mem_nil, or_false] at hg
  subst hg
  have := HN_X.out
  rcases h.1 with h | h
  ·have := h.2; omega
  ·omega)))
 )
 have HE_Y := hid (((HE_1.out.trans HE_X.out).trans HE_2.out).grl HG_Y.out (by have h1 := HN_X.out; have h2 := HE_1.out.size; simp; omega))
 obtain rfl : tn1 = 1 := HWY.out.2.1.len
 obtain ⟨r, tb, tof, hta, htb, htp, htr, htc⟩ := HWY.out.2.1.at (i := 0) (t := tk26b 0) rfl
 subst hta
 obtain ⟨cv, ⟨a0, d⟩, ga, gn, gc⟩ := r
 obtain ⟨hrd, ⟨rfl, -⟩, hrg⟩ := htr
 dsimp only [tk26b] at hrd hrg htc
 cases hrd
 obtain rfl : gn = 2 := hrg.lenN
 simp only [tkE, nxV, if_true, tkL, ckL, a8Z, tk26b, w01] at htc
 have x0 := htc 0 (by omega)
 have x1 := htc 1 (by omega)
 have x2 := htc 2 (by omega)
 have x3 := htc 3 (by omega)
 have x4 := htc 4 (by omega)
 have x5 := htc 5 (by omega)
 have x6 := htc 6 (by omega)
 have x7 := htc 7 (by omega)
 have x8 := htc 8 (by omega)
 have x9 := htc 9 (by omega)
 have x10 := htc 10 (by omega)
 simp at x0 x1 x2 x3 x4 x5 x6 x7 x8 x9 x10
 clear htc htp hrg
 obtain ⟨⟨l, y4, f, hl1, hl2, hl3⟩, hpn, -⟩ := HG2.out
 have HWd := hid (fun (W : World) (he : Ext Y W) => mcword_any none 0 (HWY.out.1.of he) 0 l hl1 (by have := HWY.out.1.plen; omega) 1 0 0 y4 f hl2 (by omega))
 clear hl1 hl2 hl3 hpn
 have a0 := (HB_b1.out).2.2 0 _ rfl
 have a1 := (HB_b1.out).2.2 1 _ rfl
 have a2 := (HB_b1.out).2.2 2 _ rfl
 have a3 := (HB_b1.out).2.2 3 _ rfl
 have a4 := (HB_b1.out).2.2 4 _ rfl
 have a5 := (HB_b1.out).2.2 5 _ rfl
 have a6 := (HB_b1.out).2.2 6 _ rfl
 have a7 := (HB_b1.out).2.2 7 _ rfl
 have a8 := (HB_b1.out).2.2 8 _ rfl
 have af := (HB_b1.out).2.1
 have ag := (HB_b1.out).1
 go_wp2_with fail
 refine (tcode_any (.iface ckT (.agg #[.int .i64 0, .bool true, .int .i64 3, .int .i64 1])) .nilFunc ⟨0, 0, (0, 0, 0), (0, 0, 0)⟩ ga 2 gc Y).mono ?_
 rintro e w3 ⟨rfl, r3, rfl⟩
 go_wp2_with fail
 refine (ctime_over 0 true 1 _).mono ?_
 rintro e w4 ⟨rfl, r4, rfl⟩
 go_wp2_with fail
 refine (HWd.out _ (by (show Ext _ _; repeat first | (with_reducible first | (refine xH ?_; assumption) | exact xR _ | refine xX ?_ _ | refine xA ?_ _) | refine xD ?_ | refine xN ?_ _ | exact xR _))).mono ?_
 rintro e w5 ⟨rfl, he5⟩
 have HE5 := hid he5
 have HEy := hid (Ext.trans (show Ext Y _ by (show Ext _ _; repeat first | (with_reducible first | (refine xH ?_; assumption) | exact xR _ | refine xX ?_ _ | refine xA ?_ _) | refine xD ?_ | refine xN ?_ _ | exact xR _)) he5)
 clear he5 a0 a1 a2 a3 a4 a5 a6 a7 a8 af ag
 have h1 := HB_b1.out.of HEy.out
 have a0 := (h1).2.2 0 _ rfl
 have a1 := (h1).2.2 1 _ rfl
 have a2 := (h1).2.2 2 _ rfl
 have a3 := (h1).2.2 3 _ rfl
 have a4 := (h1).2.2 4 _ rfl
 have a5 := (h1).2.2 5 _ rfl
 have a6 := (h1).2.2 6 _ rfl
 have a7 := (h1).2.2 7 _ rfl
 have a8 := (h1).2.2 8 _ rfl
 have af := (h1).2.1
 have ag := (h1).1
 clear h1
 have y0 := HEy.out.cell x0
 have y1 := HEy.out.cell x1
 have y2 := HEy.out.cell x2
 have y3 := HEy.out.cell x3
 have y4 := HEy.out.cell x4
 have y5 := HEy.out.cell x5
 have y6 := HEy.out.cell x6
 have y7 := HEy.out.cell x7
 have y8 := HEy.out.cell x8
 have y9 := HEy.out.cell x9
 have y10 := HEy.out.cell x10
 clear x0 x1 x2 x3 x4 x5 x6 x7 x8 x9 x10
 have yg := Nat.lt_of_lt_of_le htb HEy.out.size
 go_wp2_with fail
 refine (tsteps_any (.iface ckT (.agg #[.int .i64 0, .bool true, .int .i64 3, .int .i64 1])) .nilFunc ⟨0, 0, (0, 0, 0), (0, 0, 0)⟩ ga 2 gc _).mono ?_
 rintro e w6 ⟨rfl, r6, rfl⟩
 go_wp2_with fail
 go_ret
 exact ⟨rfl, (HE_Y.out.trans HEy.out).trans (by (show Ext _ _; repeat first | (with_reducible first | (refine xH ?_; assumption) | exact xR _ | refine xX ?_ _ | refine xA ?_ _) | refine xD ?_ | refine xN ?_ _ | exact xR _))⟩
end Go.Proofs.YtadilekaombofaaDoor
