/- The law ClockLater, walked. -/
import Derived.Test.YtaaammenbfinmaaDoorCe
namespace Go.Proofs.YtaaammenbfinmaaDoor
set_option linter.unusedSimpArgs false
set_option linter.unusedVariables false
open Go.RowKit Go.Maps

/-- Stores into a box of the law's own. -/
theorem wv_back {K : CodeK} {w2 Z : World} {A B C b7 : Nat} {q : Option Nat} {cr : Int} {v : Value} {m : Mc} {ts : List (Tk K.C)} {bs : List Bool} (h : WV K w2 (fun b => (A ≤ b ∧ b < B) ∨ C ≤ b) q cr v m ts bs) (hg : GrL [b7] w2 Z) (h1 : B ≤ b7) (h2 : b7 < C) : WV K Z (fun b => (A ≤ b ∧ b < B) ∨ C ≤ b) q cr v m ts bs :=
  h.kp (hg.kp fun g hg h => by
    simp only [List.mem_cons, List.not_mem_nil, or_false] at hg
    subst hg
    rcases h with h | h
    · have := h.2; omega
    · omega)
/-- What a call leaves, told of the law's own footprint. -/
theorem wv_fold {K : CodeK} {Y w' : World} {A B C : Nat} {q : Option Nat} {cr : Int} {v : Value} {m : Mc} {ts : List (Tk K.C)} {bs : List Bool} (h : WV K w' (fun b => (((A ≤ b ∧ b < B) ∨ C ≤ b) ∧ b < Y.heap.size) ∨ Y.heap.size ≤ b) q cr v m ts bs) (hC : C ≤ Y.heap.size) : WV K w' (fun b => (A ≤ b ∧ b < B) ∨ C ≤ b) q cr v m ts bs :=
  h.imp fun b hb => by
    rcases hb with hb | hb
    · exact hb.1
    · exact .inr (by omega)
theorem wv_of {K : CodeK} {w : World} {P : Nat → Prop} {q : Option Nat} {cr : Int} {m : Mc} {ts : List (Tk K.C)} {bs : List Bool} {pa va fa la sa ta ba : Option Addr} {pn pc vn vc fn fc ln lc sn sc tn tc bn bc : Nat} (h : WR K w P (.slice pa pn pc) (.slice va vn vc) (.slice fa fn fc) (.slice la ln lc) (.slice sa sn sc) (.slice ta tn tc) (.slice ba bn bc) m ts bs) : WV K w P q cr (.agg #[.slice pa pn pc, .slice va vn vc, .slice fa fn fc, .slice la ln lc, .map q, .slice sa sn sc, .int .i64 cr, .slice ta tn tc, .slice ba bn bc]) m ts bs :=
  ⟨_, _, _, _, _, _, _, _, _, _, _, _, _, _, _, _, _, _, _, _, _, rfl, h⟩
theorem wv_lit {K : CodeK} {w : World} {P : Nat → Prop} {q : Option Nat} {cr : Int} {m : Mc} {ts : List (Tk K.C)} {bs : List Bool} {pa va fa la sa ta ba : Option Addr} {pn pc vn vc fn fc ln lc sn sc tn tc bn bc : Nat} (h : WV K w P q cr (.agg #[.slice pa pn pc, .slice va vn vc, .slice fa fn fc, .slice la ln lc, .map q, .slice sa sn sc, .int .i64 cr, .slice ta tn tc, .slice ba bn bc]) m ts bs) : WR K w P (.slice pa pn pc) (.slice va vn vc) (.slice fa fn fc) (.slice la ln lc) (.slice sa sn sc) (.slice ta tn tc) (.slice ba bn bc) m ts bs := by
  obtain ⟨_, _, _, _, _, _, _, _, _, _, _, _, _, _, _, _, _, _, _, _, _, he, h⟩ := h
  simp only [Value.agg.injEq, Array.mk.injEq, List.cons.injEq, Value.slice.injEq, and_true, true_and] at he
  obtain ⟨⟨rfl, rfl, rfl⟩, ⟨rfl, rfl, rfl⟩, ⟨rfl, rfl, rfl⟩, ⟨rfl, rfl, rfl⟩, ⟨rfl, rfl, rfl⟩, ⟨rfl, rfl, rfl⟩, ⟨rfl, rfl, rfl⟩⟩ := he
  exact h

/-- A task that is done: its cells. -/
theorem task_done {w : World} {P : Nat → Prop} {a : Option Addr} {n c : Nat} {l : List (Tk ckK.C)} (h : TsR ckK w P (.slice a n c) l) {i : Nat} {k : Tk ckK.C} (hk : l[i]? = some k) {tk : Bool} {tm : Int} {g : List Gt} (he : k = ⟨(⟨0, tk, 3, tm⟩ : Ck), a8Z, true, g⟩) :
    ∃ (b o : Nat) (ga : Option Addr) (gn gc : Nat), a = some ⟨b, o, none⟩ ∧ b < w.heap.size ∧ (w.cell? ⟨b, o + i * 11 + 0, none⟩ = some (.iface ckT (.agg #[.int .i64 0, .bool tk, .int .i64 3, .int .i64 tm])) ∧ w.cell? ⟨b, o + i * 11 + 1, none⟩ = some .nilFunc ∧ w.cell? ⟨b, o + i * 11 + 2, none⟩ = some (.int .i64 0) ∧ w.cell? ⟨b, o + i * 11 + 3, none⟩ = some (.int .i64 0) ∧ w.cell? ⟨b, o + i * 11 + 4, none⟩ = some (.int .i64 0) ∧ w.cell? ⟨b, o + i * 11 + 5, none⟩ = some (.int .u32 0) ∧ w.cell? ⟨b, o + i * 11 + 6, none⟩ = some (.int .u32 0) ∧ w.cell? ⟨b, o + i * 11 + 7, none⟩ = some (.int .i64 0) ∧ w.cell? ⟨b, o + i * 11 + 8, none⟩ = some (.int .u32 0) ∧ w.cell? ⟨b, o + i * 11 + 9, none⟩ = some (.int .u32 0) ∧ w.cell? ⟨b, o + i * 11 + 10, none⟩ = some (.slice ga gn gc)) := by
  subst he
  obtain ⟨r, b, o, rfl, hb, _, hr, hc⟩ := h.at hk
  obtain ⟨cv, ⟨a0, d⟩, ga, gn, gc⟩ := r
  obtain ⟨hrd, ⟨rfl, -⟩, -⟩ := hr
  dsimp only at hrd hc
  cases hrd
  exact ⟨b, o, ga, gn, gc, rfl, hb, hc 0 (by decide), hc 1 (by decide), hc 2 (by decide), hc 3 (by decide), hc 4 (by decide), hc 5 (by decide), hc 6 (by decide), hc 7 (by decide), hc 8 (by decide), hc 9 (by decide), hc 10 (by decide)⟩
theorem wr_ok {x : Int} {i : Nat} (hi : (x : Int) = (i : Int)) (h : (i : Int) < 3) : wrap64 x = (i : Int) := by rw [IntWalk.wrap64_in _ (by omega)]; exact hi

set_option maxRecDepth 100000 in
set_option maxHeartbeats 4000000 in
theorem cllater_some (time : Int) (x : Int) (hx : 0 ≤ x ∧ x ≤ 255) (sw : Bool) (a b : Nat) (hxm : x % 2 + 1 = (a : Int)) (ha : a = iX sw + 1) (hb : b = iY sw + 1) (qb qo : Nat) {qn qc : Nat} {l : List Pk} {w : World} (hs : Szs w) (hl : Sl w 3 pkE (.slice (some ⟨qb, qo, none⟩) qn qc) l) : Calls Tryd.prog 4 #[.int .i64 time, .int .u8 x, .slice (some ⟨qb, qo, none⟩) qn qc] w fun e w' => e = .returned (.bool true) ∧ Ext w w' := by
  have hqn : qn = l.length := by obtain ⟨a', c', hv, _⟩ := hl; simp only [Value.slice.injEq] at hv; exact hv.2.1
  have hab : a ≤ 2 ∧ b ≤ 2 ∧ 1 ≤ a ∧ 1 ≤ b ∧ a + b = 3 := by rw [ha, hb]; cases sw <;> decide
  have HS := hid hs
  have HL := hid hl
  have HQ := hid hqn
  have HAB := hid (And.intro ha (And.intro hb hab))
  have HWB := hid (show 2 - ((a : Int) - 1) = (b : Int) by omega)
  have hrem : x % 2 = (a : Int) - 1 := by omega
  have hxb : 2 - (x % 2) = (b : Int) := by omega
  have hb2 : 2 - ((a : Int) - 1) = (b : Int) := by omega
  have hwb : wrap64 (2 - ((a : Int) - 1)) = (b : Int) := by rw [IntWalk.wrap64_in _ (by omega)]; omega
  have hwa : wrap64 ((a : Int) - 1 + 1) = (a : Int) := by rw [IntWalk.wrap64_in _ (by omega)]; omega
  clear hs hl hqn ha hb hab hxm hxb
  by_cases h1 : 60 < qn
  · have h1i : (60 : Int) < (qn : Int) := by omega
    clear h1
    go_enter Tryd.func4, Tryd.ntmps4
    go_wp2_with fail
    refine (awake26_any (HS.out.of (by (show Ext _ _; repeat first | (with_reducible first | (refine xH ?_; assumption) | exact xR _ | refine xX ?_ _ | refine xA ?_ _) | refine xD ?_ | refine xN ?_ _ | exact xR _)))).mono ?_
    rintro e w6 ⟨rfl, r6, rfl⟩
    go_wp2_with fail
    go_ret
    exact ⟨rfl, by (show Ext _ _; repeat first | (with_reducible first | (refine xH ?_; assumption) | exact xR _ | refine xX ?_ _ | refine xA ?_ _) | refine xD ?_ | refine xN ?_ _ | exact xR _)⟩
  have h1i : ¬ (60 : Int) < (qn : Int) := by omega
  have h1j : (qn : Int) ≤ 60 := by omega
  have h1d : decide ((60 : Int) < (qn : Int)) = false := decide_eq_false h1i
  have HQ2 := hid (show qn ≤ 60 by omega)
  clear h1
  by_cases h2 : time < -1125899906842624
  · go_enter Tryd.func4, Tryd.ntmps4
    go_wp2_with fail
    refine (awake26_any (HS.out.of (by (show Ext _ _; repeat first | (with_reducible first | (refine xH ?_; assumption) | exact xR _ | refine xX ?_ _ | refine xA ?_ _) | refine xD ?_ | refine xN ?_ _ | exact xR _)))).mono ?_
    rintro e w6 ⟨rfl, r6, rfl⟩
    go_wp2_with fail
    go_ret
    exact ⟨rfl, by (show Ext _ _; repeat first | (with_reducible first | (refine xH ?_; assumption) | exact xR _ | refine xX ?_ _ | refine xA ?_ _) | refine xD ?_ | refine xN ?_ _ | exact xR _)⟩
  have h2i : (-1125899906842624 : Int) ≤ time := by omega
  have h2d : decide (time < -1125899906842624) = false := decide_eq_false h2
  by_cases h3 : 1125899906842624 < time
  · go_enter Tryd.func4, Tryd.ntmps4
    go_wp2_with fail
    refine (awake26_any (HS.out.of (by (show Ext _ _; repeat first | (with_reducible first | (refine xH ?_; assumption) | exact xR _ | refine xX ?_ _ | refine xA ?_ _) | refine xD ?_ | refine xN ?_ _ | exact xR _)))).mono ?_
    rintro e w6 ⟨rfl, r6, rfl⟩
    go_wp2_with fail
    go_ret
    exact ⟨rfl, by (show Ext _ _; repeat first | (with_reducible first | (refine xH ?_; assumption) | exact xR _ | refine xX ?_ _ | refine xA ?_ _) | refine xD ?_ | refine xN ?_ _ | exact xR _)⟩
  have h3i : time ≤ 1125899906842624 := by omega
  have h3d : decide ((1125899906842624 : Int) < time) = false := decide_eq_false h3
  have HT := hid (show -1125899906842624 ≤ time ∧ time ≤ 1125899906842624 from ⟨h2i, h3i⟩)
  go_enter Tryd.func4, Tryd.ntmps4
  go_wp2_with fail
  refine (start26_any (HS.out.of (by (show Ext _ _; repeat first | (with_reducible first | (refine xH ?_; assumption) | exact xR _ | refine xX ?_ _ | refine xA ?_ _) | refine xD ?_ | refine xN ?_ _ | exact xR _))) time (l := [true, true, false]) (sl_blk blE_len (Blk.new _ _ rfl rfl) (by simp) (by simp)) (by simp)).mono ?_
  rintro e w1 ⟨v1, rfl, he, hv⟩
  have HE_1 := hid (Ext.trans (show Ext w _ by (show Ext _ _; repeat first | (with_reducible first | (refine xH ?_; assumption) | exact xR _ | refine xX ?_ _ | refine xA ?_ _) | refine xD ?_ | refine xN ?_ _ | exact xR _)) he)
  clear he
  obtain ⟨pa, va, fa, la, sa, ta, ba, pn, pc, vn, vc, fn, fc, ln, lc, sn, sc, tn, tc, bn, bc, rfl, hw⟩ := hv
  have HW := hid (WR.imp (P' := fun b => w.heap.size ≤ b) hw (fun b h => by simp at h; omega))
  clear hw
  go_upto_region 7 with fail
  generalize hV_ : World.alloc _ _ = X
  have HE_X := hid (show Ext w1 X by rw [← hV_]; (show Ext _ _; repeat first | (with_reducible first | (refine xH ?_; assumption) | exact xR _ | refine xX ?_ _ | refine xA ?_ _) | refine xD ?_ | refine xN ?_ _ | exact xR _))
  have HB_b7 := hid (show Blk X (w1.heap.size) [.slice pa pn pc, .slice va vn vc, .slice fa fn fc, .slice la ln lc, .map none, .slice sa sn sc, .int .i64 0, .slice ta tn tc, .slice ba bn bc] by rw [← hV_]; (show Blk _ _ _; repeat first | (with_reducible first | (refine xH ?_; assumption) | refine bD ?_ | refine bX ?_ _) | (with_reducible refine bN _ _ rfl ?_; first | with_reducible rfl | (simp; done)) | (with_reducible first | refine bA ?_ _ | assumption | apply bS) | (with_reducible refine bO ?_ ?_; first | omega | (simp; omega)) | (show List.set _ _ _ = _; exact rfl) | (show _ < List.length _; simp; done)))
  clear hV_
  obtain ⟨b7, hg_b7⟩ : ∃ g, g = w1.heap.size := ⟨_, rfl⟩
  simp only [← hg_b7] at HB_b7 ⊢
  have HN_X := hid (show b7 = w1.heap.size ∧ b7 < X.heap.size from ⟨hg_b7, HB_b7.out.1⟩)
  clear hg_b7
  clear h1i h1j h1d h2 h2i h2d h3 h3i h3d
  have HNX := hid (show w1.heap.size ≤ b7 ∧ b7 < X.heap.size ∧ w.heap.size ≤ w1.heap.size by have h1 := HN_X.out; have h2 := HE_1.out.size; omega)
  have HNb := hid (show ∀ g ∈ [b7], w.heap.size ≤ g by have := HNX.out; simp; omega)
  have HV_X := hid (show WV ckK X (fun b => (w.heap.size ≤ b ∧ b < w1.heap.size) ∨ X.heap.size ≤ b) none 0 (.agg #[.slice pa pn pc, .slice va vn vc, .slice fa fn fc, .slice la ln lc, .map none, .slice sa sn sc, .int .i64 0, .slice ta tn tc, .slice ba bn bc]) (mc26 time) (LL sw kA0 kA0 kN0) bs3 from wv_of (by
    have e : LL sw kA0 kA0 kN0 = [true, true, false].map (fun t => tkStart ckK (ck0 t)) := by cases sw <;> rfl
    rw [e]
    exact WR.imp (WR.of HW.out.bnd HE_X.out) (fun b hb => .inl hb)))
  have HwX := hid (HE_1.out.trans HE_X.out)
  clear HE_X HN_X HW
  have HE_X := HwX
  clear HwX
  have HC_X := hid (Nat.le_refl X.heap.size)
  have HB_X := HB_b7
  clear HB_b7
  obtain ⟨m1, m2, hg2, hsA, hsB⟩ := runA sw time HT.out
  obtain ⟨M, hM⟩ : ∃ M : Nat → Mc × List (Tk ckK.C), M = fun j => if j = 0 then (mc26 time, LL sw kA0 kA0 kN0) else if j = 1 then (m1, LL sw (tk26a time) kA0 kN0) else (m2, LL sw (tk26b time) kA0 kN0) := ⟨_, rfl⟩
  have hM0 : M 0 = (mc26 time, LL sw kA0 kA0 kN0) := by rw [hM]; rfl
  have hM1 : M 1 = (m1, LL sw (tk26a time) kA0 kN0) := by rw [hM]; rfl
  have hM2 : M 2 = (m2, LL sw (tk26b time) kA0 kN0) := by rw [hM]; rfl
  have HM := hid (And.intro hM0 (And.intro hM1 hM2))
  have HSA := hid (And.intro hsA hsB)
  have HG2 := hid hg2
  clear hM hM0 hM1 hM2 hsA hsB hg2
  have h7_ := HB_X.out
  have f0 := (h7_).2.2 0 _ rfl
  have f1 := (h7_).2.2 1 _ rfl
  have f2 := (h7_).2.2 2 _ rfl
  have f3 := (h7_).2.2 3 _ rfl
  have f4 := (h7_).2.2 4 _ rfl
  have f5 := (h7_).2.2 5 _ rfl
  have f6 := (h7_).2.2 6 _ rfl
  have f7 := (h7_).2.2 7 _ rfl
  have f8 := (h7_).2.2 8 _ rfl
  have ff := (h7_).2.1
  have fg := (h7_).1
  clear h7_
  go_wp2_with fail
  refine (walone_any (K := ckK) (w := X) (P := fun b => ((w.heap.size ≤ b ∧ b < w1.heap.size) ∨ X.heap.size ≤ b) ∧ b < X.heap.size) (fun b h => h.2) none 0 M (bs := bs3) (by rw [HM.out.1]; exact (wv_lit HV_X.out).bnd) a (iX sw) HAB.out.1 (by rw [HM.out.1, LL_len]; cases sw <;> decide) (by rw [HM.out.1, LL_len]; decide) (by simp) (bs3_at _) 2 2 (by decide) (by decide) (fun j hj => ?_) (.inl rfl) (tk26b time) (by rw [HM.out.2.2]; exact LL_x ..)).mono ?_
  · rw [HAB.out.1]
    have hj2 : j = 0 ∨ j = 1 := by omega
    rcases hj2 with rfl | rfl
    · rw [HM.out.1, HM.out.2.1]; exact HSA.out.1
    · rw [HM.out.2.1, HM.out.2.2]; exact HSA.out.2
  rintro e w2 ⟨v_, rfl, he, hv⟩
  rw [HM.out.2.2] at hv
  rw [show (tk26b time).d = true from rfl]
  have hv := wv_fold hv HC_X.out
  have hvs := hv
  obtain ⟨pa1, va1, fa1, la1, sa1, ta1, ba1, pn1, pc1, vn1, vc1, fn1, fc1, ln1, lc1, sn1, sc1, tn1, tc1, bn1, bc1, rfl, hw⟩ := hvs
  clear hw
  have HX1 := hid he
  have hb_ := HB_X.out.of he
  clear he f0 f1 f2 f3 f4 f5 f6 f7 f8 ff fg
  have f0 := (hb_).2.2 0 _ rfl
  have f1 := (hb_).2.2 1 _ rfl
  have f2 := (hb_).2.2 2 _ rfl
  have f3 := (hb_).2.2 3 _ rfl
  have f4 := (hb_).2.2 4 _ rfl
  have f5 := (hb_).2.2 5 _ rfl
  have f6 := (hb_).2.2 6 _ rfl
  have f7 := (hb_).2.2 7 _ rfl
  have f8 := (hb_).2.2 8 _ rfl
  have ff := (hb_).2.1
  have fg := (hb_).1
  go_upto_region 8 with fail
  generalize hZ_ : World.setCell _ _ _ = Y1
  have HG_Y1 := hid (show GrL [b7] w2 Y1 by rw [← hZ_]; (show GrL _ _ _; repeat (first | with_reducible exact GrL.refl | ((with_reducible refine GrL.set ?_ ?_ _); rotate_left 1; focus (simp; done)) | ((with_reducible refine GrL.ext ?_ _)) | ((with_reducible refine GrL.alloc ?_ _)) | ((with_reducible refine GrL.drew ?_)))))
  have HB_Y1 := hid (show Blk Y1 b7 [.slice pa1 pn1 pc1, .slice va1 vn1 vc1, .slice fa1 fn1 fc1, .slice la1 ln1 lc1, .map none, .slice sa1 sn1 sc1, .int .i64 0, .slice ta1 tn1 tc1, .slice ba1 bn1 bc1] by rw [← hZ_]; (show Blk _ _ _; (with_reducible apply Blk.cast); (repeat first | (with_reducible first | (refine xH ?_; assumption) | assumption | apply bD | apply bX | apply bA | apply Blk.set) | ((with_reducible apply bO); first | omega | (simp; omega))); all_goals (first | rfl | (simp; done))))
  clear hZ_ hb_ f0 f1 f2 f3 f4 f5 f6 f7 f8 ff fg
  have HV_Y1 := hid (wv_back hv HG_Y1.out HNX.out.1 HNX.out.2.1)
  clear hv
  have HE_Y1 := hid ((HE_X.out.trans HX1.out).grl HG_Y1.out HNb.out)
  have HC_Y1 := hid (show X.heap.size ≤ Y1.heap.size from Nat.le_trans HC_X.out (Nat.le_trans HX1.out.size HG_Y1.out.size))
  obtain ⟨m3, hg3, hsN⟩ := runN sw HG2.out (by omega) (tk26b time)
  obtain ⟨M', hM⟩ : ∃ M : Nat → Mc × List (Tk ckK.C), M = fun j => if j = 0 then (m2, LL sw (tk26b time) kA0 kN0) else (m3, LL sw (tk26b time) kA0 (kN1 (time + 1))) := ⟨_, rfl⟩
  have hM0 : M' 0 = (m2, LL sw (tk26b time) kA0 kN0) := by rw [hM]; rfl
  have hM1 : M' 1 = (m3, LL sw (tk26b time) kA0 (kN1 (time + 1))) := by rw [hM]; rfl
  have HM' := hid (And.intro hM0 hM1)
  have HSN := hid hsN
  have HG3 := hid hg3
  clear hM hM0 hM1 hsN hg3 HM HSA HG2 HB_X HV_X HX1 HG_Y1
  have h7_ := HB_Y1.out
  have f0 := (h7_).2.2 0 _ rfl
  have f1 := (h7_).2.2 1 _ rfl
  have f2 := (h7_).2.2 2 _ rfl
  have f3 := (h7_).2.2 3 _ rfl
  have f4 := (h7_).2.2 4 _ rfl
  have f5 := (h7_).2.2 5 _ rfl
  have f6 := (h7_).2.2 6 _ rfl
  have f7 := (h7_).2.2 7 _ rfl
  have f8 := (h7_).2.2 8 _ rfl
  have ff := (h7_).2.1
  have fg := (h7_).1
  clear h7_
  go_wp2_with fail
  refine (walone_any (K := ckK) (w := Y1) (P := fun b => ((w.heap.size ≤ b ∧ b < w1.heap.size) ∨ X.heap.size ≤ b) ∧ b < Y1.heap.size) (fun b h => h.2) none 0 M' (bs := bs3) (by rw [HM'.out.1]; exact (wv_lit HV_Y1.out).bnd) 3 2 rfl (by rw [HM'.out.1, LL_len]; decide) (by rw [HM'.out.1, LL_len]; decide) (by simp) (bs3_at _) 1 1 (by decide) (by decide) (fun j hj => ?_) (.inl rfl) (kN1 (time + 1)) (by rw [HM'.out.2]; exact LL_z ..)).mono ?_
  · obtain rfl : j = 0 := by omega
    rw [HM'.out.1, HM'.out.2]; exact HSN.out
  rintro e w3 ⟨v_, rfl, he, hv⟩
  rw [HM'.out.2] at hv
  rw [show (kN1 (time + 1)).d = true from rfl]
  have hv := wv_fold hv HC_Y1.out
  have hvs := hv
  obtain ⟨pa2, va2, fa2, la2, sa2, ta2, ba2, pn2, pc2, vn2, vc2, fn2, fc2, ln2, lc2, sn2, sc2, tn2, tc2, bn2, bc2, rfl, hw⟩ := hvs
  clear hw
  have HX2 := hid he
  have hb_ := HB_Y1.out.of he
  clear he f0 f1 f2 f3 f4 f5 f6 f7 f8 ff fg
  have f0 := (hb_).2.2 0 _ rfl
  have f1 := (hb_).2.2 1 _ rfl
  have f2 := (hb_).2.2 2 _ rfl
  have f3 := (hb_).2.2 3 _ rfl
  have f4 := (hb_).2.2 4 _ rfl
  have f5 := (hb_).2.2 5 _ rfl
  have f6 := (hb_).2.2 6 _ rfl
  have f7 := (hb_).2.2 7 _ rfl
  have f8 := (hb_).2.2 8 _ rfl
  have ff := (hb_).2.1
  have fg := (hb_).1
  go_upto_region 9 with fail
  generalize hZ_ : World.setCell _ _ _ = Y2
  have HG_Y2 := hid (show GrL [b7] w3 Y2 by rw [← hZ_]; (show GrL _ _ _; repeat (first | with_reducible exact GrL.refl | ((with_reducible refine GrL.set ?_ ?_ _); rotate_left 1; focus (simp; done)) | ((with_reducible refine GrL.ext ?_ _)) | ((with_reducible refine GrL.alloc ?_ _)) | ((with_reducible refine GrL.drew ?_)))))
  have HB_Y2 := hid (show Blk Y2 b7 [.slice pa2 pn2 pc2, .slice va2 vn2 vc2, .slice fa2 fn2 fc2, .slice la2 ln2 lc2, .map none, .slice sa2 sn2 sc2, .int .i64 0, .slice ta2 tn2 tc2, .slice ba2 bn2 bc2] by rw [← hZ_]; (show Blk _ _ _; (with_reducible apply Blk.cast); (repeat first | (with_reducible first | (refine xH ?_; assumption) | assumption | apply bD | apply bX | apply bA | apply Blk.set) | ((with_reducible apply bO); first | omega | (simp; omega))); all_goals (first | rfl | (simp; done))))
  clear hZ_ hb_ f0 f1 f2 f3 f4 f5 f6 f7 f8 ff fg
  have HV_Y2 := hid (wv_back hv HG_Y2.out HNX.out.1 HNX.out.2.1)
  clear hv
  have HE_Y2 := hid ((HE_Y1.out.trans HX2.out).grl HG_Y2.out HNb.out)
  have HC_Y2 := hid (show X.heap.size ≤ Y2.heap.size from Nat.le_trans HC_Y1.out (Nat.le_trans HX2.out.size HG_Y2.out.size))
  clear HB_Y1 HV_Y1 HX2 HG_Y2 HM' HSN HE_X HC_X HE_Y1 HC_Y1
  have HG3' := hid (show G26 m3 (clkB (time + 1) 0, 0, 0) (3 + 0) from HG3.out)
  have HVR := hid (show -1125899906842626 ≤ time + 1 ∧ time + 1 ≤ 1125899906842626 by have := HT.out; omega)
  have HTW := hid (show wrap64 (time + 1) = time + 1 ∧ wrap64 (time + 1 + 1) = time + 2 from ⟨IntWalk.wrap64_in _ (by have := HT.out; omega), by rw [IntWalk.wrap64_in _ (by have := HT.out; omega)]; omega⟩)
  have HTW2 := hid (show wrap64 (time + 2) = time + 2 from IntWalk.wrap64_in _ (by have := HT.out; omega))
  have HTA := hid (show (tk26b time).d = true ∧ (kN1 (time + 1)).d = true from ⟨rfl, rfl⟩)
  go_wp2_with fail
  go_loopw [63] (fun i_ wr => ∃ (j : Nat), j ≤ qn ∧ i_ = .int .i64 j ∧ ∃ (pa1 va1 fa1 la1 sa1 ta1 ba1 : Option Addr) (pn1 pc1 vn1 vc1 fn1 fc1 ln1 lc1 sn1 sc1 tn1 tc1 bn1 bc1 : Nat) (m : Mc) (p : Nat), p ≤ 2 ∧ Hid (Blk wr b7 [.slice pa1 pn1 pc1, .slice va1 vn1 vc1, .slice fa1 fn1 fc1, .slice la1 ln1 lc1, .map none, .slice sa1 sn1 sc1, .int .i64 0, .slice ta1 tn1 tc1, .slice ba1 bn1 bc1]) ∧ Hid (WV ckK wr (fun b => (w.heap.size ≤ b ∧ b < w1.heap.size) ∨ X.heap.size ≤ b) none 0 (.agg #[.slice pa1 pn1 pc1, .slice va1 vn1 vc1, .slice fa1 fn1 fc1, .slice la1 ln1 lc1, .map none, .slice sa1 sn1 sc1, .int .i64 0, .slice ta1 tn1 tc1, .slice ba1 bn1 bc1]) m (LL sw (tk26b time) (kB (time + 1) p) (kN1 (time + 1))) bs3) ∧ Hid (GrL [b7] Y2 wr) ∧ Hid (G26 m (clkB (time + 1) p, 0, 0) (3 + j))) (fun i_ _ => qn - (intOf i_).toNat)
  case atStart => exact ⟨0, Nat.zero_le _, rfl, _, _, _, _, _, _, _, _, _, _, _, _, _, _, _, _, _, _, _, _, _, m3, 0, by decide, HB_Y2, HV_Y2, hid GrL.refl, HG3'⟩
  case round =>
    clear HB_Y2 HV_Y2
    obtain ⟨j, hjn, rfl, pa1, va1, fa1, la1, sa1, ta1, ba1, pn1, pc1, vn1, vc1, fn1, fc1, ln1, lc1, sn1, sc1, tn1, tc1, bn1, bc1, m, p, hp2, HB_wr, HV_wr, HG, HI⟩ := hrel
    have HJn := hid hjn
    have HP2 := hid hp2
    clear hjn hp2
    have HE_wr := hid (HE_Y2.out.grl HG.out HNb.out)
    have HC_wr := hid (show X.heap.size ≤ wr.heap.size from Nat.le_trans HC_Y2.out HG.out.size)
    by_cases hjm : j < qn
    · have hjm2 : (j : Int) < (qn : Int) := lt_int hjm
      obtain ⟨⟨k1, k2, k3⟩, hp⟩ : ∃ x, l[j]? = some x := ⟨l[j]'(by have := HQ.out; omega), List.getElem?_eq_getElem _⟩
      obtain ⟨hx_, qb1, qo1, hqa, hqb, hqx⟩ := (HL.out.of pkE_len HE_wr.out).at hp
      obtain ⟨rfl, rfl⟩ : qb = qb1 ∧ qo = qo1 := by simpa using hqa
      obtain ⟨jq, hjq⟩ : ∃ x, x = j + 1 := ⟨_, rfl⟩
      have hwq : wrap64 ((j : Int) + 1) = (jq : Int) := wq3 (by have := HQ2.out; omega) hjq
      have HJm := hid hjm
      have HJq := hid hjq
      have x0 := hqx 0 (by omega)
      have x1 := hqx 1 (by omega)
      have x2 := hqx 2 (by omega)
      simp [pkE] at x0 x1 x2
      clear hp hx_ hqx hjm hjq hqa
      go_upto_region 12 with fail
      generalize hV_ : World.alloc _ _ = Y
      have HE_Y := hid (show Ext wr Y by rw [← hV_]; (show Ext _ _; repeat first | (with_reducible first | (refine xH ?_; assumption) | exact xR _ | refine xX ?_ _ | refine xA ?_ _) | refine xD ?_ | refine xN ?_ _ | exact xR _))
      have HB_b14 := hid (show Blk Y (wr.heap.size) [.int .i64 k1, .int .i64 k2, .int .i64 k3] by rw [← hV_]; (show Blk _ _ _; repeat first | (with_reducible first | (refine xH ?_; assumption) | refine bD ?_ | refine bX ?_ _) | (with_reducible refine bN _ _ rfl ?_; first | with_reducible rfl | (simp; done)) | (with_reducible first | refine bA ?_ _ | assumption | apply bS) | (with_reducible refine bO ?_ ?_; first | omega | (simp; omega)) | (show List.set _ _ _ = _; exact rfl) | (show _ < List.length _; simp; done)))
      clear hV_
      obtain ⟨b14, hg_b14⟩ : ∃ g, g = wr.heap.size := ⟨_, rfl⟩
      simp only [← hg_b14] at HB_b14 ⊢
      have HN_Y := hid (show b14 = wr.heap.size ∧ b14 < Y.heap.size from ⟨hg_b14, HB_b14.out.1⟩)
      clear hg_b14
      clear x0 x1 x2 hqb
      have e0 := (HB_b14.out).2.2 0 _ rfl
      have e1 := (HB_b14.out).2.2 1 _ rfl
      have e2 := (HB_b14.out).2.2 2 _ rfl
      have ef := (HB_b14.out).2.1
      have eg := (HB_b14.out).1
      by_cases hk1 : k1 = 0
      · subst hk1
        obtain ⟨m', p', hp', hg', hstep⟩ := stepB sw HVR.out HP2.out HI.out (by have := HJm.out; have := HQ2.out; omega) (tk26b time) (kN1 (time + 1)) rfl rfl k2 k3
        have HI' := hid (And.intro hp' hg')
        clear hp' hg'
        have h1 := HB_wr.out.of HE_Y.out
        have f0 := (h1).2.2 0 _ rfl
        have f1 := (h1).2.2 1 _ rfl
        have f2 := (h1).2.2 2 _ rfl
        have f3 := (h1).2.2 3 _ rfl
        have f4 := (h1).2.2 4 _ rfl
        have f5 := (h1).2.2 5 _ rfl
        have f6 := (h1).2.2 6 _ rfl
        have f7 := (h1).2.2 7 _ rfl
        have f8 := (h1).2.2 8 _ rfl
        have ff := (h1).2.1
        have fg := (h1).1
        clear h1
        go_wp2_with fail
        refine (hstep Y (fun b => ((w.heap.size ≤ b ∧ b < w1.heap.size) ∨ X.heap.size ≤ b) ∧ b < wr.heap.size) _ (fun b h => Nat.lt_of_lt_of_le h.2 HE_Y.out.size) (HV_wr.out.bnd.of HE_Y.out)).mono ?_
        rintro e w2 ⟨v', mv, rfl, he, hv⟩
        have hv := wv_fold (Y := Y) (hv.imp (P' := fun b => (((w.heap.size ≤ b ∧ b < w1.heap.size) ∨ X.heap.size ≤ b) ∧ b < Y.heap.size) ∨ Y.heap.size ≤ b) (fun b h => h.imp (fun h => ⟨h.1, Nat.lt_of_lt_of_le h.2 HE_Y.out.size⟩) id)) (Nat.le_trans HC_wr.out HE_Y.out.size)
        have hvs := hv
        obtain ⟨pa2, va2, fa2, la2, sa2, ta2, ba2, pn2, pc2, vn2, vc2, fn2, fc2, ln2, lc2, sn2, sc2, tn2, tc2, bn2, bc2, rfl, hw⟩ := hvs
        clear hw
        have HE2 := hid he
        have h3 := HB_wr.out.of (HE_Y.out.trans he)
        clear he hstep f0 f1 f2 f3 f4 f5 f6 f7 f8 ff fg e0 e1 e2 ef eg
        have f0 := (h3).2.2 0 _ rfl
        have f1 := (h3).2.2 1 _ rfl
        have f2 := (h3).2.2 2 _ rfl
        have f3 := (h3).2.2 3 _ rfl
        have f4 := (h3).2.2 4 _ rfl
        have f5 := (h3).2.2 5 _ rfl
        have f6 := (h3).2.2 6 _ rfl
        have f7 := (h3).2.2 7 _ rfl
        have f8 := (h3).2.2 8 _ rfl
        have ff := (h3).2.1
        have fg := (h3).1
        have HB2 := hid h3
        clear h3
        go_upto_region 14 with fail
        generalize hZ_ : World.setCell _ _ _ = Z
        have HGZ := hid (show GrL [b7] w2 Z by rw [← hZ_]; (show GrL _ _ _; repeat (first | with_reducible exact GrL.refl | ((with_reducible refine GrL.set ?_ ?_ _); rotate_left 1; focus (simp; done)) | ((with_reducible refine GrL.ext ?_ _)) | ((with_reducible refine GrL.alloc ?_ _)) | ((with_reducible refine GrL.drew ?_)))))
        have HBZ := hid (show Blk Z b7 [.slice pa2 pn2 pc2, .slice va2 vn2 vc2, .slice fa2 fn2 fc2, .slice la2 ln2 lc2, .map none, .slice sa2 sn2 sc2, .int .i64 0, .slice ta2 tn2 tc2, .slice ba2 bn2 bc2] by rw [← hZ_]; have h3 := HB2.out; (show Blk _ _ _; (with_reducible apply Blk.cast); (repeat first | (with_reducible first | (refine xH ?_; assumption) | assumption | apply bD | apply bX | apply bA | apply Blk.set) | ((with_reducible apply bO); first | omega | (simp; omega))); all_goals (first | rfl | (simp; done))))
        clear hZ_ f0 f1 f2 f3 f4 f5 f6 f7 f8 ff fg
        have HVZ := hid (wv_back hv HGZ.out HNX.out.1 HNX.out.2.1)
        clear hv
        go_wp2_with fail
        go_roundw
        case rel =>
          exact ⟨jq, le_next HJm.out HJq.out, by first | exact slot_next' hwq | exact slot_next HJq.out | (rw [hwq]), _, _, _, _, _, _, _, _, _, _, _, _, _, _, _, _, _, _, _, _, _, m', p', HI'.out.1, HBZ, HVZ, hid ((HG.out.trans (GrL.of_ext (HE_Y.out.trans HE2.out))).trans HGZ.out), by rw [HJq.out]; exact hid HI'.out.2⟩
        case measure => first | exact meas_next2 HJm.out HJq.out | exact meas_next3 hwq HJm.out HJq.out | exact meas_next HJm.out HJq.out
      · have hk1d : (k1 = 0) = False := eq_false hk1
        go_wp2_with fail
        go_roundw
        case rel => exact ⟨jq, le_next HJm.out HJq.out, by first | exact slot_next' hwq | exact slot_next HJq.out | (rw [hwq]), _, _, _, _, _, _, _, _, _, _, _, _, _, _, _, _, _, _, _, _, _, m, p, HP2.out, hid (HB_wr.out.of HE_Y.out), hid (HV_wr.out.of HE_Y.out), hid (HG.out.trans (GrL.of_ext HE_Y.out)), by rw [HJq.out]; exact hid HI.out.up⟩
        case measure => first | exact meas_next2 HJm.out HJq.out | exact meas_next3 hwq HJm.out HJq.out | exact meas_next HJm.out HJq.out
    · have hjm2 : ¬ (j : Int) < (qn : Int) := fun h => hjm (by omega)
      have hjm3 : (qn : Int) ≤ (j : Int) := by omega
      obtain ⟨M, k, hM0, hMk, hk4, hMs, hMe⟩ := runB sw HVR.out HP2.out HI.out (by have := HJn.out; have := HQ2.out; omega) (tk26b time) (kN1 (time + 1)) rfl rfl
      have HM := hid (And.intro hM0 (And.intro hMk (And.intro hk4 (And.intro hMs hMe))))
      have hwb3 := HWB.out
      clear hjm hM0 hMk hk4 hMs hMe
      have h7_ := HB_wr.out
      have f0 := (h7_).2.2 0 _ rfl
      have f1 := (h7_).2.2 1 _ rfl
      have f2 := (h7_).2.2 2 _ rfl
      have f3 := (h7_).2.2 3 _ rfl
      have f4 := (h7_).2.2 4 _ rfl
      have f5 := (h7_).2.2 5 _ rfl
      have f6 := (h7_).2.2 6 _ rfl
      have f7 := (h7_).2.2 7 _ rfl
      have f8 := (h7_).2.2 8 _ rfl
      have ff := (h7_).2.1
      have fg := (h7_).1
      clear h7_
      go_wp2_with fail
      refine (walone_any (K := ckK) (w := wr) (P := fun b => ((w.heap.size ≤ b ∧ b < w1.heap.size) ∨ X.heap.size ≤ b) ∧ b < wr.heap.size) (fun b h => h.2) none 0 M (bs := bs3) (by rw [HM.out.1]; exact (wv_lit HV_wr.out).bnd) b (iY sw) HAB.out.2.1 (by rw [HM.out.1, LL_len]; cases sw <;> decide) (by rw [HM.out.1, LL_len]; decide) (by simp) (bs3_at _) 4 k (by decide) HM.out.2.2.1 (fun j hj => ?_) (.inr ?_) (tk26b (time + 1)) (by rw [HM.out.2.1]; exact LL_y ..)).mono ?_
      · rw [HAB.out.2.1]; exact HM.out.2.2.2.1 j hj
      · rw [HAB.out.2.1]; exact HM.out.2.2.2.2
      rintro e w4 ⟨v_, rfl, he, hv⟩
      rw [HM.out.2.1] at hv
      rw [show (tk26b (time + 1)).d = true from rfl]
      have hv := wv_fold hv HC_wr.out
      have hvs := hv
      obtain ⟨pa3, va3, fa3, la3, sa3, ta3, ba3, pn3, pc3, vn3, vc3, fn3, fc3, ln3, lc3, sn3, sc3, tn3, tc3, bn3, bc3, rfl, hw⟩ := hvs
      clear hw
      have HX3 := hid he
      have hb_ := HB_wr.out.of he
      clear he f0 f1 f2 f3 f4 f5 f6 f7 f8 ff fg
      have f0 := (hb_).2.2 0 _ rfl
      have f1 := (hb_).2.2 1 _ rfl
      have f2 := (hb_).2.2 2 _ rfl
      have f3 := (hb_).2.2 3 _ rfl
      have f4 := (hb_).2.2 4 _ rfl
      have f5 := (hb_).2.2 5 _ rfl
      have f6 := (hb_).2.2 6 _ rfl
      have f7 := (hb_).2.2 7 _ rfl
      have f8 := (hb_).2.2 8 _ rfl
      have ff := (hb_).2.1
      have fg := (hb_).1
      go_upto_region 16 with fail
      generalize hZ_ : World.setCell _ _ _ = Y3
      have HG_Y3 := hid (show GrL [b7] w4 Y3 by rw [← hZ_]; (show GrL _ _ _; repeat (first | with_reducible exact GrL.refl | ((with_reducible refine GrL.set ?_ ?_ _); rotate_left 1; focus (simp; done)) | ((with_reducible refine GrL.ext ?_ _)) | ((with_reducible refine GrL.alloc ?_ _)) | ((with_reducible refine GrL.drew ?_)))))
      have HB_Y3 := hid (show Blk Y3 b7 [.slice pa3 pn3 pc3, .slice va3 vn3 vc3, .slice fa3 fn3 fc3, .slice la3 ln3 lc3, .map none, .slice sa3 sn3 sc3, .int .i64 0, .slice ta3 tn3 tc3, .slice ba3 bn3 bc3] by rw [← hZ_]; (show Blk _ _ _; (with_reducible apply Blk.cast); (repeat first | (with_reducible first | (refine xH ?_; assumption) | assumption | apply bD | apply bX | apply bA | apply Blk.set) | ((with_reducible apply bO); first | omega | (simp; omega))); all_goals (first | rfl | (simp; done))))
      clear hZ_ hb_ f0 f1 f2 f3 f4 f5 f6 f7 f8 ff fg
      have HV_Y3 := hid (wv_back hv HG_Y3.out HNX.out.1 HNX.out.2.1)
      clear hv
      have HE_Y3 := hid ((HE_wr.out.trans HX3.out).grl HG_Y3.out HNb.out)
      have HC_Y3 := hid (show X.heap.size ≤ Y3.heap.size from Nat.le_trans HC_wr.out (Nat.le_trans HX3.out.size HG_Y3.out.size))
      clear hwb3 HM HB_wr HV_wr HX3 HG_Y3 HE_wr HC_wr HI HG
      have HW3 := hid (wv_lit HV_Y3.out)
      obtain rfl : tn3 = 3 := by have := HW3.out.2.1.len; rw [LL_len] at this; exact this
      obtain ⟨tbb, tbo, ga1, gn1, gc1, hta, htb, hx⟩ := task_done HW3.out.2.1 (LL_x sw (tk26b time) (tk26b (time + 1)) (kN1 (time + 1))) (tk := true) (tm := time + 1) (g := [((time, 0, 0), true), ((time, 0, 0), true)]) (by unfold tk26b; rw [HTW.out.1])
      obtain ⟨tbb2, tbo2, ga2, gn2, gc2, hta2, _, hy⟩ := task_done HW3.out.2.1 (LL_y sw (tk26b time) (tk26b (time + 1)) (kN1 (time + 1))) (tk := true) (tm := time + 2) (g := [((time + 1, 0, 0), true), ((time + 1, 0, 0), true)]) (by unfold tk26b; rw [HTW.out.2])
      obtain ⟨tbb3, tbo3, ga3, gn3, gc3, hta3, _, hz⟩ := task_done HW3.out.2.1 (LL_z sw (tk26b time) (tk26b (time + 1)) (kN1 (time + 1))) (tk := false) (tm := time + 1) (g := [((time + 1, 0, 0), true)]) rfl
      subst hta
      obtain ⟨rfl, rfl⟩ : tbb = tbb2 ∧ tbo = tbo2 := by simpa using hta2
      obtain ⟨rfl, rfl⟩ : tbb = tbb3 ∧ tbo = tbo3 := by simpa using hta3
      clear hta2 hta3
      obtain ⟨x0, x1, x2, x3, x4, x5, x6, x7, x8, x9, x10⟩ := hx
      obtain ⟨y0, y1, y2, y3, y4, y5, y6, y7, y8, y9, y10⟩ := hy
      obtain ⟨z0, z1, z2, z3, z4, z5, z6, z7, z8, z9, z10⟩ := hz
      obtain ⟨ix, hix⟩ : ∃ n, n = iX sw := ⟨_, rfl⟩
      obtain ⟨iy, hiy⟩ : ∃ n, n = iY sw := ⟨_, rfl⟩
      rw [← hix] at x0 x1 x2 x3 x4 x5 x6 x7 x8 x9 x10
      rw [← hiy] at y0 y1 y2 y3 y4 y5 y6 y7 y8 y9 y10
      have hxy : ((a : Int) - 1 = (ix : Int) ∧ (b : Int) - 1 = (iy : Int)) ∧ ((ix : Int) < 3 ∧ (iy : Int) < 3) := by
        have h1 := HAB.out.1
        have h2 := HAB.out.2.1
        have h3 := HAB.out.2.2
        rw [hix, hiy]
        omega
      obtain ⟨⟨hia, hib⟩, hil, hil2⟩ := hxy
      have hwia : wrap64 ((a : Int) - 1) = (ix : Int) := (wr_ok hia hil)
      have hwib : wrap64 ((b : Int) - 1) = (iy : Int) := (wr_ok hib hil2)
      have hv1 := HTW.out.1
      have hv3 : wrap64 (time + 2) = time + 2 := HTW2.out
      simp at x0 x1 x2 x3 x4 x5 x6 x7 x8 x9 x10 y0 y1 y2 y3 y4 y5 y6 y7 y8 y9 y10 z0 z1 z2 z3 z4 z5 z6 z7 z8 z9 z10
      clear hix hiy HW3
      have f0 := (HB_Y3.out).2.2 0 _ rfl
      have f1 := (HB_Y3.out).2.2 1 _ rfl
      have f2 := (HB_Y3.out).2.2 2 _ rfl
      have f3 := (HB_Y3.out).2.2 3 _ rfl
      have f4 := (HB_Y3.out).2.2 4 _ rfl
      have f5 := (HB_Y3.out).2.2 5 _ rfl
      have f6 := (HB_Y3.out).2.2 6 _ rfl
      have f7 := (HB_Y3.out).2.2 7 _ rfl
      have f8 := (HB_Y3.out).2.2 8 _ rfl
      have ff := (HB_Y3.out).2.1
      have fg := (HB_Y3.out).1
      go_wp2_with fail
      refine (tcode_any (.iface ckT (.agg #[.int .i64 0, .bool true, .int .i64 3, .int .i64 (time + 1)])) .nilFunc ⟨0, 0, (0, 0, 0), (0, 0, 0)⟩ ga1 gn1 gc1 _).mono ?_
      rintro e v1a ⟨rfl, s1a, rfl⟩
      go_wp2_with fail
      refine (ctime_over 0 true (time + 1) _).mono ?_
      rintro e v1b ⟨rfl, s1b, rfl⟩
      go_wp2_with fail
      refine (tcode_any (.iface ckT (.agg #[.int .i64 0, .bool true, .int .i64 3, .int .i64 (time + 2)])) .nilFunc ⟨0, 0, (0, 0, 0), (0, 0, 0)⟩ ga2 gn2 gc2 _).mono ?_
      rintro e v2a ⟨rfl, s2a, rfl⟩
      go_wp2_with fail
      refine (ctime_over 0 true (time + 2) _).mono ?_
      rintro e v2b ⟨rfl, s2b, rfl⟩
      go_wp2_with fail
      refine (tcode_any (.iface ckT (.agg #[.int .i64 0, .bool false, .int .i64 3, .int .i64 (time + 1)])) .nilFunc ⟨0, 0, (0, 0, 0), (0, 0, 0)⟩ ga3 gn3 gc3 _).mono ?_
      rintro e v3a ⟨rfl, s3a, rfl⟩
      go_wp2_with fail
      refine (ctime_over 0 false (time + 1) _).mono ?_
      rintro e v3b ⟨rfl, s3b, rfl⟩
      go_wp2_with fail
      refine (awake26_any (HS.out.of (HE_Y3.out.trans (by (show Ext _ _; repeat first | (with_reducible first | (refine xH ?_; assumption) | exact xR _ | refine xX ?_ _ | refine xA ?_ _) | refine xD ?_ | refine xN ?_ _ | exact xR _))))).mono ?_
      rintro e v9 ⟨rfl, s9, rfl⟩
      go_wp2_with fail
      go_ret
      exact ⟨rfl, HE_Y3.out.trans (by (show Ext _ _; repeat first | (with_reducible first | (refine xH ?_; assumption) | exact xR _ | refine xX ?_ _ | refine xA ?_ _) | refine xD ?_ | refine xN ?_ _ | exact xR _))⟩

set_option maxRecDepth 100000 in
set_option maxHeartbeats 4000000 in
theorem cllater_none (time : Int) (x : Int) (hx : 0 ≤ x ∧ x ≤ 255) (sw : Bool) (a b : Nat) (hxm : x % 2 + 1 = (a : Int)) (ha : a = iX sw + 1) (hb : b = iY sw + 1) {qa : Option Addr} {qn qc : Nat} {l : List Pk} {w : World} (hs : Szs w) (hl : Sl w 3 pkE (.slice qa qn qc) l) (hl0 : l = []) : Calls Tryd.prog 4 #[.int .i64 time, .int .u8 x, .slice qa qn qc] w fun e w' => e = .returned (.bool true) ∧ Ext w w' := by
  have hqn : qn = l.length := by obtain ⟨a', c', hv, _⟩ := hl; simp only [Value.slice.injEq] at hv; exact hv.2.1
  have hab : a ≤ 2 ∧ b ≤ 2 ∧ 1 ≤ a ∧ 1 ≤ b ∧ a + b = 3 := by rw [ha, hb]; cases sw <;> decide
  have HS := hid hs
  have HL := hid hl
  have HL0 := hid hl0
  clear hl0
  have HQ := hid hqn
  have HAB := hid (And.intro ha (And.intro hb hab))
  have HWB := hid (show 2 - ((a : Int) - 1) = (b : Int) by omega)
  have hrem : x % 2 = (a : Int) - 1 := by omega
  have hxb : 2 - (x % 2) = (b : Int) := by omega
  have hb2 : 2 - ((a : Int) - 1) = (b : Int) := by omega
  have hwb : wrap64 (2 - ((a : Int) - 1)) = (b : Int) := by rw [IntWalk.wrap64_in _ (by omega)]; omega
  have hwa : wrap64 ((a : Int) - 1 + 1) = (a : Int) := by rw [IntWalk.wrap64_in _ (by omega)]; omega
  clear hs hl hqn ha hb hab hxm hxb
  by_cases h1 : 60 < qn
  · have h1i : (60 : Int) < (qn : Int) := by omega
    clear h1
    go_enter Tryd.func4, Tryd.ntmps4
    go_wp2_with fail
    refine (awake26_any (HS.out.of (by (show Ext _ _; repeat first | (with_reducible first | (refine xH ?_; assumption) | exact xR _ | refine xX ?_ _ | refine xA ?_ _) | refine xD ?_ | refine xN ?_ _ | exact xR _)))).mono ?_
    rintro e w6 ⟨rfl, r6, rfl⟩
    go_wp2_with fail
    go_ret
    exact ⟨rfl, by (show Ext _ _; repeat first | (with_reducible first | (refine xH ?_; assumption) | exact xR _ | refine xX ?_ _ | refine xA ?_ _) | refine xD ?_ | refine xN ?_ _ | exact xR _)⟩
  have h1i : ¬ (60 : Int) < (qn : Int) := by omega
  have h1j : (qn : Int) ≤ 60 := by omega
  have h1d : decide ((60 : Int) < (qn : Int)) = false := decide_eq_false h1i
  have HQ2 := hid (show qn ≤ 60 by omega)
  clear h1
  by_cases h2 : time < -1125899906842624
  · go_enter Tryd.func4, Tryd.ntmps4
    go_wp2_with fail
    refine (awake26_any (HS.out.of (by (show Ext _ _; repeat first | (with_reducible first | (refine xH ?_; assumption) | exact xR _ | refine xX ?_ _ | refine xA ?_ _) | refine xD ?_ | refine xN ?_ _ | exact xR _)))).mono ?_
    rintro e w6 ⟨rfl, r6, rfl⟩
    go_wp2_with fail
    go_ret
    exact ⟨rfl, by (show Ext _ _; repeat first | (with_reducible first | (refine xH ?_; assumption) | exact xR _ | refine xX ?_ _ | refine xA ?_ _) | refine xD ?_ | refine xN ?_ _ | exact xR _)⟩
  have h2i : (-1125899906842624 : Int) ≤ time := by omega
  have h2d : decide (time < -1125899906842624) = false := decide_eq_false h2
  by_cases h3 : 1125899906842624 < time
  · go_enter Tryd.func4, Tryd.ntmps4
    go_wp2_with fail
    refine (awake26_any (HS.out.of (by (show Ext _ _; repeat first | (with_reducible first | (refine xH ?_; assumption) | exact xR _ | refine xX ?_ _ | refine xA ?_ _) | refine xD ?_ | refine xN ?_ _ | exact xR _)))).mono ?_
    rintro e w6 ⟨rfl, r6, rfl⟩
    go_wp2_with fail
    go_ret
    exact ⟨rfl, by (show Ext _ _; repeat first | (with_reducible first | (refine xH ?_; assumption) | exact xR _ | refine xX ?_ _ | refine xA ?_ _) | refine xD ?_ | refine xN ?_ _ | exact xR _)⟩
  have h3i : time ≤ 1125899906842624 := by omega
  have h3d : decide ((1125899906842624 : Int) < time) = false := decide_eq_false h3
  have HT := hid (show -1125899906842624 ≤ time ∧ time ≤ 1125899906842624 from ⟨h2i, h3i⟩)
  go_enter Tryd.func4, Tryd.ntmps4
  go_wp2_with fail
  refine (start26_any (HS.out.of (by (show Ext _ _; repeat first | (with_reducible first | (refine xH ?_; assumption) | exact xR _ | refine xX ?_ _ | refine xA ?_ _) | refine xD ?_ | refine xN ?_ _ | exact xR _))) time (l := [true, true, false]) (sl_blk blE_len (Blk.new _ _ rfl rfl) (by simp) (by simp)) (by simp)).mono ?_
  rintro e w1 ⟨v1, rfl, he, hv⟩
  have HE_1 := hid (Ext.trans (show Ext w _ by (show Ext _ _; repeat first | (with_reducible first | (refine xH ?_; assumption) | exact xR _ | refine xX ?_ _ | refine xA ?_ _) | refine xD ?_ | refine xN ?_ _ | exact xR _)) he)
  clear he
  obtain ⟨pa, va, fa, la, sa, ta, ba, pn, pc, vn, vc, fn, fc, ln, lc, sn, sc, tn, tc, bn, bc, rfl, hw⟩ := hv
  have HW := hid (WR.imp (P' := fun b => w.heap.size ≤ b) hw (fun b h => by simp at h; omega))
  clear hw
  go_upto_region 7 with fail
  generalize hV_ : World.alloc _ _ = X
  have HE_X := hid (show Ext w1 X by rw [← hV_]; (show Ext _ _; repeat first | (with_reducible first | (refine xH ?_; assumption) | exact xR _ | refine xX ?_ _ | refine xA ?_ _) | refine xD ?_ | refine xN ?_ _ | exact xR _))
  have HB_b7 := hid (show Blk X (w1.heap.size) [.slice pa pn pc, .slice va vn vc, .slice fa fn fc, .slice la ln lc, .map none, .slice sa sn sc, .int .i64 0, .slice ta tn tc, .slice ba bn bc] by rw [← hV_]; (show Blk _ _ _; repeat first | (with_reducible first | (refine xH ?_; assumption) | refine bD ?_ | refine bX ?_ _) | (with_reducible refine bN _ _ rfl ?_; first | with_reducible rfl | (simp; done)) | (with_reducible first | refine bA ?_ _ | assumption | apply bS) | (with_reducible refine bO ?_ ?_; first | omega | (simp; omega)) | (show List.set _ _ _ = _; exact rfl) | (show _ < List.length _; simp; done)))
  clear hV_
  obtain ⟨b7, hg_b7⟩ : ∃ g, g = w1.heap.size := ⟨_, rfl⟩
  simp only [← hg_b7] at HB_b7 ⊢
  have HN_X := hid (show b7 = w1.heap.size ∧ b7 < X.heap.size from ⟨hg_b7, HB_b7.out.1⟩)
  clear hg_b7
  clear h1i h1j h1d h2 h2i h2d h3 h3i h3d
  have HNX := hid (show w1.heap.size ≤ b7 ∧ b7 < X.heap.size ∧ w.heap.size ≤ w1.heap.size by have h1 := HN_X.out; have h2 := HE_1.out.size; omega)
  have HNb := hid (show ∀ g ∈ [b7], w.heap.size ≤ g by have := HNX.out; simp; omega)
  have HV_X := hid (show WV ckK X (fun b => (w.heap.size ≤ b ∧ b < w1.heap.size) ∨ X.heap.size ≤ b) none 0 (.agg #[.slice pa pn pc, .slice va vn vc, .slice fa fn fc, .slice la ln lc, .map none, .slice sa sn sc, .int .i64 0, .slice ta tn tc, .slice ba bn bc]) (mc26 time) (LL sw kA0 kA0 kN0) bs3 from wv_of (by
    have e : LL sw kA0 kA0 kN0 = [true, true, false].map (fun t => tkStart ckK (ck0 t)) := by cases sw <;> rfl
    rw [e]
    exact WR.imp (WR.of HW.out.bnd HE_X.out) (fun b hb => .inl hb)))
  have HwX := hid (HE_1.out.trans HE_X.out)
  clear HE_X HN_X HW
  have HE_X := HwX
  clear HwX
  have HC_X := hid (Nat.le_refl X.heap.size)
  have HB_X := HB_b7
  clear HB_b7
  obtain ⟨m1, m2, hg2, hsA, hsB⟩ := runA sw time HT.out
  obtain ⟨M, hM⟩ : ∃ M : Nat → Mc × List (Tk ckK.C), M = fun j => if j = 0 then (mc26 time, LL sw kA0 kA0 kN0) else if j = 1 then (m1, LL sw (tk26a time) kA0 kN0) else (m2, LL sw (tk26b time) kA0 kN0) := ⟨_, rfl⟩
  have hM0 : M 0 = (mc26 time, LL sw kA0 kA0 kN0) := by rw [hM]; rfl
  have hM1 : M 1 = (m1, LL sw (tk26a time) kA0 kN0) := by rw [hM]; rfl
  have hM2 : M 2 = (m2, LL sw (tk26b time) kA0 kN0) := by rw [hM]; rfl
  have HM := hid (And.intro hM0 (And.intro hM1 hM2))
  have HSA := hid (And.intro hsA hsB)
  have HG2 := hid hg2
  clear hM hM0 hM1 hM2 hsA hsB hg2
  have h7_ := HB_X.out
  have f0 := (h7_).2.2 0 _ rfl
  have f1 := (h7_).2.2 1 _ rfl
  have f2 := (h7_).2.2 2 _ rfl
  have f3 := (h7_).2.2 3 _ rfl
  have f4 := (h7_).2.2 4 _ rfl
  have f5 := (h7_).2.2 5 _ rfl
  have f6 := (h7_).2.2 6 _ rfl
  have f7 := (h7_).2.2 7 _ rfl
  have f8 := (h7_).2.2 8 _ rfl
  have ff := (h7_).2.1
  have fg := (h7_).1
  clear h7_
  go_wp2_with fail
  refine (walone_any (K := ckK) (w := X) (P := fun b => ((w.heap.size ≤ b ∧ b < w1.heap.size) ∨ X.heap.size ≤ b) ∧ b < X.heap.size) (fun b h => h.2) none 0 M (bs := bs3) (by rw [HM.out.1]; exact (wv_lit HV_X.out).bnd) a (iX sw) HAB.out.1 (by rw [HM.out.1, LL_len]; cases sw <;> decide) (by rw [HM.out.1, LL_len]; decide) (by simp) (bs3_at _) 2 2 (by decide) (by decide) (fun j hj => ?_) (.inl rfl) (tk26b time) (by rw [HM.out.2.2]; exact LL_x ..)).mono ?_
  · rw [HAB.out.1]
    have hj2 : j = 0 ∨ j = 1 := by omega
    rcases hj2 with rfl | rfl
    · rw [HM.out.1, HM.out.2.1]; exact HSA.out.1
    · rw [HM.out.2.1, HM.out.2.2]; exact HSA.out.2
  rintro e w2 ⟨v_, rfl, he, hv⟩
  rw [HM.out.2.2] at hv
  rw [show (tk26b time).d = true from rfl]
  have hv := wv_fold hv HC_X.out
  have hvs := hv
  obtain ⟨pa1, va1, fa1, la1, sa1, ta1, ba1, pn1, pc1, vn1, vc1, fn1, fc1, ln1, lc1, sn1, sc1, tn1, tc1, bn1, bc1, rfl, hw⟩ := hvs
  clear hw
  have HX1 := hid he
  have hb_ := HB_X.out.of he
  clear he f0 f1 f2 f3 f4 f5 f6 f7 f8 ff fg
  have f0 := (hb_).2.2 0 _ rfl
  have f1 := (hb_).2.2 1 _ rfl
  have f2 := (hb_).2.2 2 _ rfl
  have f3 := (hb_).2.2 3 _ rfl
  have f4 := (hb_).2.2 4 _ rfl
  have f5 := (hb_).2.2 5 _ rfl
  have f6 := (hb_).2.2 6 _ rfl
  have f7 := (hb_).2.2 7 _ rfl
  have f8 := (hb_).2.2 8 _ rfl
  have ff := (hb_).2.1
  have fg := (hb_).1
  go_upto_region 8 with fail
  generalize hZ_ : World.setCell _ _ _ = Y1
  have HG_Y1 := hid (show GrL [b7] w2 Y1 by rw [← hZ_]; (show GrL _ _ _; repeat (first | with_reducible exact GrL.refl | ((with_reducible refine GrL.set ?_ ?_ _); rotate_left 1; focus (simp; done)) | ((with_reducible refine GrL.ext ?_ _)) | ((with_reducible refine GrL.alloc ?_ _)) | ((with_reducible refine GrL.drew ?_)))))
  have HB_Y1 := hid (show Blk Y1 b7 [.slice pa1 pn1 pc1, .slice va1 vn1 vc1, .slice fa1 fn1 fc1, .slice la1 ln1 lc1, .map none, .slice sa1 sn1 sc1, .int .i64 0, .slice ta1 tn1 tc1, .slice ba1 bn1 bc1] by rw [← hZ_]; (show Blk _ _ _; (with_reducible apply Blk.cast); (repeat first | (with_reducible first | (refine xH ?_; assumption) | assumption | apply bD | apply bX | apply bA | apply Blk.set) | ((with_reducible apply bO); first | omega | (simp; omega))); all_goals (first | rfl | (simp; done))))
  clear hZ_ hb_ f0 f1 f2 f3 f4 f5 f6 f7 f8 ff fg
  have HV_Y1 := hid (wv_back hv HG_Y1.out HNX.out.1 HNX.out.2.1)
  clear hv
  have HE_Y1 := hid ((HE_X.out.trans HX1.out).grl HG_Y1.out HNb.out)
  have HC_Y1 := hid (show X.heap.size ≤ Y1.heap.size from Nat.le_trans HC_X.out (Nat.le_trans HX1.out.size HG_Y1.out.size))
  obtain ⟨m3, hg3, hsN⟩ := runN sw HG2.out (by omega) (tk26b time)
  obtain ⟨M', hM⟩ : ∃ M : Nat → Mc × List (Tk ckK.C), M = fun j => if j = 0 then (m2, LL sw (tk26b time) kA0 kN0) else (m3, LL sw (tk26b time) kA0 (kN1 (time + 1))) := ⟨_, rfl⟩
  have hM0 : M' 0 = (m2, LL sw (tk26b time) kA0 kN0) := by rw [hM]; rfl
  have hM1 : M' 1 = (m3, LL sw (tk26b time) kA0 (kN1 (time + 1))) := by rw [hM]; rfl
  have HM' := hid (And.intro hM0 hM1)
  have HSN := hid hsN
  have HG3 := hid hg3
  clear hM hM0 hM1 hsN hg3 HM HSA HG2 HB_X HV_X HX1 HG_Y1
  have h7_ := HB_Y1.out
  have f0 := (h7_).2.2 0 _ rfl
  have f1 := (h7_).2.2 1 _ rfl
  have f2 := (h7_).2.2 2 _ rfl
  have f3 := (h7_).2.2 3 _ rfl
  have f4 := (h7_).2.2 4 _ rfl
  have f5 := (h7_).2.2 5 _ rfl
  have f6 := (h7_).2.2 6 _ rfl
  have f7 := (h7_).2.2 7 _ rfl
  have f8 := (h7_).2.2 8 _ rfl
  have ff := (h7_).2.1
  have fg := (h7_).1
  clear h7_
  go_wp2_with fail
  refine (walone_any (K := ckK) (w := Y1) (P := fun b => ((w.heap.size ≤ b ∧ b < w1.heap.size) ∨ X.heap.size ≤ b) ∧ b < Y1.heap.size) (fun b h => h.2) none 0 M' (bs := bs3) (by rw [HM'.out.1]; exact (wv_lit HV_Y1.out).bnd) 3 2 rfl (by rw [HM'.out.1, LL_len]; decide) (by rw [HM'.out.1, LL_len]; decide) (by simp) (bs3_at _) 1 1 (by decide) (by decide) (fun j hj => ?_) (.inl rfl) (kN1 (time + 1)) (by rw [HM'.out.2]; exact LL_z ..)).mono ?_
  · obtain rfl : j = 0 := by omega
    rw [HM'.out.1, HM'.out.2]; exact HSN.out
  rintro e w3 ⟨v_, rfl, he, hv⟩
  rw [HM'.out.2] at hv
  rw [show (kN1 (time + 1)).d = true from rfl]
  have hv := wv_fold hv HC_Y1.out
  have hvs := hv
  obtain ⟨pa2, va2, fa2, la2, sa2, ta2, ba2, pn2, pc2, vn2, vc2, fn2, fc2, ln2, lc2, sn2, sc2, tn2, tc2, bn2, bc2, rfl, hw⟩ := hvs
  clear hw
  have HX2 := hid he
  have hb_ := HB_Y1.out.of he
  clear he f0 f1 f2 f3 f4 f5 f6 f7 f8 ff fg
  have f0 := (hb_).2.2 0 _ rfl
  have f1 := (hb_).2.2 1 _ rfl
  have f2 := (hb_).2.2 2 _ rfl
  have f3 := (hb_).2.2 3 _ rfl
  have f4 := (hb_).2.2 4 _ rfl
  have f5 := (hb_).2.2 5 _ rfl
  have f6 := (hb_).2.2 6 _ rfl
  have f7 := (hb_).2.2 7 _ rfl
  have f8 := (hb_).2.2 8 _ rfl
  have ff := (hb_).2.1
  have fg := (hb_).1
  go_upto_region 9 with fail
  generalize hZ_ : World.setCell _ _ _ = Y2
  have HG_Y2 := hid (show GrL [b7] w3 Y2 by rw [← hZ_]; (show GrL _ _ _; repeat (first | with_reducible exact GrL.refl | ((with_reducible refine GrL.set ?_ ?_ _); rotate_left 1; focus (simp; done)) | ((with_reducible refine GrL.ext ?_ _)) | ((with_reducible refine GrL.alloc ?_ _)) | ((with_reducible refine GrL.drew ?_)))))
  have HB_Y2 := hid (show Blk Y2 b7 [.slice pa2 pn2 pc2, .slice va2 vn2 vc2, .slice fa2 fn2 fc2, .slice la2 ln2 lc2, .map none, .slice sa2 sn2 sc2, .int .i64 0, .slice ta2 tn2 tc2, .slice ba2 bn2 bc2] by rw [← hZ_]; (show Blk _ _ _; (with_reducible apply Blk.cast); (repeat first | (with_reducible first | (refine xH ?_; assumption) | assumption | apply bD | apply bX | apply bA | apply Blk.set) | ((with_reducible apply bO); first | omega | (simp; omega))); all_goals (first | rfl | (simp; done))))
  clear hZ_ hb_ f0 f1 f2 f3 f4 f5 f6 f7 f8 ff fg
  have HV_Y2 := hid (wv_back hv HG_Y2.out HNX.out.1 HNX.out.2.1)
  clear hv
  have HE_Y2 := hid ((HE_Y1.out.trans HX2.out).grl HG_Y2.out HNb.out)
  have HC_Y2 := hid (show X.heap.size ≤ Y2.heap.size from Nat.le_trans HC_Y1.out (Nat.le_trans HX2.out.size HG_Y2.out.size))
  clear HB_Y1 HV_Y1 HX2 HG_Y2 HM' HSN HE_X HC_X HE_Y1 HC_Y1
  have HG3' := hid (show G26 m3 (clkB (time + 1) 0, 0, 0) (3 + 0) from HG3.out)
  have HVR := hid (show -1125899906842626 ≤ time + 1 ∧ time + 1 ≤ 1125899906842626 by have := HT.out; omega)
  have HTW := hid (show wrap64 (time + 1) = time + 1 ∧ wrap64 (time + 1 + 1) = time + 2 from ⟨IntWalk.wrap64_in _ (by have := HT.out; omega), by rw [IntWalk.wrap64_in _ (by have := HT.out; omega)]; omega⟩)
  have HTW2 := hid (show wrap64 (time + 2) = time + 2 from IntWalk.wrap64_in _ (by have := HT.out; omega))
  have HTA := hid (show (tk26b time).d = true ∧ (kN1 (time + 1)).d = true from ⟨rfl, rfl⟩)
  go_wp2_with fail
  go_loopw [63] (fun i_ wr => ∃ (j : Nat), j ≤ qn ∧ i_ = .int .i64 j ∧ ∃ (pa1 va1 fa1 la1 sa1 ta1 ba1 : Option Addr) (pn1 pc1 vn1 vc1 fn1 fc1 ln1 lc1 sn1 sc1 tn1 tc1 bn1 bc1 : Nat) (m : Mc) (p : Nat), p ≤ 2 ∧ Hid (Blk wr b7 [.slice pa1 pn1 pc1, .slice va1 vn1 vc1, .slice fa1 fn1 fc1, .slice la1 ln1 lc1, .map none, .slice sa1 sn1 sc1, .int .i64 0, .slice ta1 tn1 tc1, .slice ba1 bn1 bc1]) ∧ Hid (WV ckK wr (fun b => (w.heap.size ≤ b ∧ b < w1.heap.size) ∨ X.heap.size ≤ b) none 0 (.agg #[.slice pa1 pn1 pc1, .slice va1 vn1 vc1, .slice fa1 fn1 fc1, .slice la1 ln1 lc1, .map none, .slice sa1 sn1 sc1, .int .i64 0, .slice ta1 tn1 tc1, .slice ba1 bn1 bc1]) m (LL sw (tk26b time) (kB (time + 1) p) (kN1 (time + 1))) bs3) ∧ Hid (GrL [b7] Y2 wr) ∧ Hid (G26 m (clkB (time + 1) p, 0, 0) (3 + j))) (fun i_ _ => qn - (intOf i_).toNat)
  case atStart => exact ⟨0, Nat.zero_le _, rfl, _, _, _, _, _, _, _, _, _, _, _, _, _, _, _, _, _, _, _, _, _, m3, 0, by decide, HB_Y2, HV_Y2, hid GrL.refl, HG3'⟩
  case round =>
    clear HB_Y2 HV_Y2
    obtain ⟨j, hjn, rfl, pa1, va1, fa1, la1, sa1, ta1, ba1, pn1, pc1, vn1, vc1, fn1, fc1, ln1, lc1, sn1, sc1, tn1, tc1, bn1, bc1, m, p, hp2, HB_wr, HV_wr, HG, HI⟩ := hrel
    have HJn := hid hjn
    have HP2 := hid hp2
    clear hjn hp2
    have HE_wr := hid (HE_Y2.out.grl HG.out HNb.out)
    have HC_wr := hid (show X.heap.size ≤ wr.heap.size from Nat.le_trans HC_Y2.out HG.out.size)
    by_cases hjm : j < qn
    · exact absurd hjm (by have h1 := HQ.out; have h2 := HL0.out; rw [h2] at h1; simp at h1; omega)
    · have hjm2 : ¬ (j : Int) < (qn : Int) := fun h => hjm (by omega)
      have hjm3 : (qn : Int) ≤ (j : Int) := by omega
      obtain ⟨M, k, hM0, hMk, hk4, hMs, hMe⟩ := runB sw HVR.out HP2.out HI.out (by have := HJn.out; have := HQ2.out; omega) (tk26b time) (kN1 (time + 1)) rfl rfl
      have HM := hid (And.intro hM0 (And.intro hMk (And.intro hk4 (And.intro hMs hMe))))
      have hwb3 := HWB.out
      clear hjm hM0 hMk hk4 hMs hMe
      have h7_ := HB_wr.out
      have f0 := (h7_).2.2 0 _ rfl
      have f1 := (h7_).2.2 1 _ rfl
      have f2 := (h7_).2.2 2 _ rfl
      have f3 := (h7_).2.2 3 _ rfl
      have f4 := (h7_).2.2 4 _ rfl
      have f5 := (h7_).2.2 5 _ rfl
      have f6 := (h7_).2.2 6 _ rfl
      have f7 := (h7_).2.2 7 _ rfl
      have f8 := (h7_).2.2 8 _ rfl
      have ff := (h7_).2.1
      have fg := (h7_).1
      clear h7_
      go_wp2_with fail
      refine (walone_any (K := ckK) (w := wr) (P := fun b => ((w.heap.size ≤ b ∧ b < w1.heap.size) ∨ X.heap.size ≤ b) ∧ b < wr.heap.size) (fun b h => h.2) none 0 M (bs := bs3) (by rw [HM.out.1]; exact (wv_lit HV_wr.out).bnd) b (iY sw) HAB.out.2.1 (by rw [HM.out.1, LL_len]; cases sw <;> decide) (by rw [HM.out.1, LL_len]; decide) (by simp) (bs3_at _) 4 k (by decide) HM.out.2.2.1 (fun j hj => ?_) (.inr ?_) (tk26b (time + 1)) (by rw [HM.out.2.1]; exact LL_y ..)).mono ?_
      · rw [HAB.out.2.1]; exact HM.out.2.2.2.1 j hj
      · rw [HAB.out.2.1]; exact HM.out.2.2.2.2
      rintro e w4 ⟨v_, rfl, he, hv⟩
      rw [HM.out.2.1] at hv
      rw [show (tk26b (time + 1)).d = true from rfl]
      have hv := wv_fold hv HC_wr.out
      have hvs := hv
      obtain ⟨pa3, va3, fa3, la3, sa3, ta3, ba3, pn3, pc3, vn3, vc3, fn3, fc3, ln3, lc3, sn3, sc3, tn3, tc3, bn3, bc3, rfl, hw⟩ := hvs
      clear hw
      have HX3 := hid he
      have hb_ := HB_wr.out.of he
      clear he f0 f1 f2 f3 f4 f5 f6 f7 f8 ff fg
      have f0 := (hb_).2.2 0 _ rfl
      have f1 := (hb_).2.2 1 _ rfl
      have f2 := (hb_).2.2 2 _ rfl
      have f3 := (hb_).2.2 3 _ rfl
      have f4 := (hb_).2.2 4 _ rfl
      have f5 := (hb_).2.2 5 _ rfl
      have f6 := (hb_).2.2 6 _ rfl
      have f7 := (hb_).2.2 7 _ rfl
      have f8 := (hb_).2.2 8 _ rfl
      have ff := (hb_).2.1
      have fg := (hb_).1
      go_upto_region 16 with fail
      generalize hZ_ : World.setCell _ _ _ = Y3
      have HG_Y3 := hid (show GrL [b7] w4 Y3 by rw [← hZ_]; (show GrL _ _ _; repeat (first | with_reducible exact GrL.refl | ((with_reducible refine GrL.set ?_ ?_ _); rotate_left 1; focus (simp; done)) | ((with_reducible refine GrL.ext ?_ _)) | ((with_reducible refine GrL.alloc ?_ _)) | ((with_reducible refine GrL.drew ?_)))))
      have HB_Y3 := hid (show Blk Y3 b7 [.slice pa3 pn3 pc3, .slice va3 vn3 vc3, .slice fa3 fn3 fc3, .slice la3 ln3 lc3, .map none, .slice sa3 sn3 sc3, .int .i64 0, .slice ta3 tn3 tc3, .slice ba3 bn3 bc3] by rw [← hZ_]; (show Blk _ _ _; (with_reducible apply Blk.cast); (repeat first | (with_reducible first | (refine xH ?_; assumption) | assumption | apply bD | apply bX | apply bA | apply Blk.set) | ((with_reducible apply bO); first | omega | (simp; omega))); all_goals (first | rfl | (simp; done))))
      clear hZ_ hb_ f0 f1 f2 f3 f4 f5 f6 f7 f8 ff fg
      have HV_Y3 := hid (wv_back hv HG_Y3.out HNX.out.1 HNX.out.2.1)
      clear hv
      have HE_Y3 := hid ((HE_wr.out.trans HX3.out).grl HG_Y3.out HNb.out)
      have HC_Y3 := hid (show X.heap.size ≤ Y3.heap.size from Nat.le_trans HC_wr.out (Nat.le_trans HX3.out.size HG_Y3.out.size))
      clear hwb3 HM HB_wr HV_wr HX3 HG_Y3 HE_wr HC_wr HI HG
      have HW3 := hid (wv_lit HV_Y3.out)
      obtain rfl : tn3 = 3 := by have := HW3.out.2.1.len; rw [LL_len] at this; exact this
      obtain ⟨tbb, tbo, ga1, gn1, gc1, hta, htb, hx⟩ := task_done HW3.out.2.1 (LL_x sw (tk26b time) (tk26b (time + 1)) (kN1 (time + 1))) (tk := true) (tm := time + 1) (g := [((time, 0, 0), true), ((time, 0, 0), true)]) (by unfold tk26b; rw [HTW.out.1])
      obtain ⟨tbb2, tbo2, ga2, gn2, gc2, hta2, _, hy⟩ := task_done HW3.out.2.1 (LL_y sw (tk26b time) (tk26b (time + 1)) (kN1 (time + 1))) (tk := true) (tm := time + 2) (g := [((time + 1, 0, 0), true), ((time + 1, 0, 0), true)]) (by unfold tk26b; rw [HTW.out.2])
      obtain ⟨tbb3, tbo3, ga3, gn3, gc3, hta3, _, hz⟩ := task_done HW3.out.2.1 (LL_z sw (tk26b time) (tk26b (time + 1)) (kN1 (time + 1))) (tk := false) (tm := time + 1) (g := [((time + 1, 0, 0), true)]) rfl
      subst hta
      obtain ⟨rfl, rfl⟩ : tbb = tbb2 ∧ tbo = tbo2 := by simpa using hta2
      obtain ⟨rfl, rfl⟩ : tbb = tbb3 ∧ tbo = tbo3 := by simpa using hta3
      clear hta2 hta3
      obtain ⟨x0, x1, x2, x3, x4, x5, x6, x7, x8, x9, x10⟩ := hx
      obtain ⟨y0, y1, y2, y3, y4, y5, y6, y7, y8, y9, y10⟩ := hy
      obtain ⟨z0, z1, z2, z3, z4, z5, z6, z7, z8, z9, z10⟩ := hz
      obtain ⟨ix, hix⟩ : ∃ n, n = iX sw := ⟨_, rfl⟩
      obtain ⟨iy, hiy⟩ : ∃ n, n = iY sw := ⟨_, rfl⟩
      rw [← hix] at x0 x1 x2 x3 x4 x5 x6 x7 x8 x9 x10
      rw [← hiy] at y0 y1 y2 y3 y4 y5 y6 y7 y8 y9 y10
      have hxy : ((a : Int) - 1 = (ix : Int) ∧ (b : Int) - 1 = (iy : Int)) ∧ ((ix : Int) < 3 ∧ (iy : Int) < 3) := by
        have h1 := HAB.out.1
        have h2 := HAB.out.2.1
        have h3 := HAB.out.2.2
        rw [hix, hiy]
        omega
      obtain ⟨⟨hia, hib⟩, hil, hil2⟩ := hxy
      have hwia : wrap64 ((a : Int) - 1) = (ix : Int) := (wr_ok hia hil)
      have hwib : wrap64 ((b : Int) - 1) = (iy : Int) := (wr_ok hib hil2)
      have hv1 := HTW.out.1
      have hv3 : wrap64 (time + 2) = time + 2 := HTW2.out
      simp at x0 x1 x2 x3 x4 x5 x6 x7 x8 x9 x10 y0 y1 y2 y3 y4 y5 y6 y7 y8 y9 y10 z0 z1 z2 z3 z4 z5 z6 z7 z8 z9 z10
      clear hix hiy HW3
      have f0 := (HB_Y3.out).2.2 0 _ rfl
      have f1 := (HB_Y3.out).2.2 1 _ rfl
      have f2 := (HB_Y3.out).2.2 2 _ rfl
      have f3 := (HB_Y3.out).2.2 3 _ rfl
      have f4 := (HB_Y3.out).2.2 4 _ rfl
      have f5 := (HB_Y3.out).2.2 5 _ rfl
      have f6 := (HB_Y3.out).2.2 6 _ rfl
      have f7 := (HB_Y3.out).2.2 7 _ rfl
      have f8 := (HB_Y3.out).2.2 8 _ rfl
      have ff := (HB_Y3.out).2.1
      have fg := (HB_Y3.out).1
      go_wp2_with fail
      refine (tcode_any (.iface ckT (.agg #[.int .i64 0, .bool true, .int .i64 3, .int .i64 (time + 1)])) .nilFunc ⟨0, 0, (0, 0, 0), (0, 0, 0)⟩ ga1 gn1 gc1 _).mono ?_
      rintro e v1a ⟨rfl, s1a, rfl⟩
      go_wp2_with fail
      refine (ctime_over 0 true (time + 1) _).mono ?_
      rintro e v1b ⟨rfl, s1b, rfl⟩
      go_wp2_with fail
      refine (tcode_any (.iface ckT (.agg #[.int .i64 0, .bool true, .int .i64 3, .int .i64 (time + 2)])) .nilFunc ⟨0, 0, (0, 0, 0), (0, 0, 0)⟩ ga2 gn2 gc2 _).mono ?_
      rintro e v2a ⟨rfl, s2a, rfl⟩
      go_wp2_with fail
      refine (ctime_over 0 true (time + 2) _).mono ?_
      rintro e v2b ⟨rfl, s2b, rfl⟩
      go_wp2_with fail
      refine (tcode_any (.iface ckT (.agg #[.int .i64 0, .bool false, .int .i64 3, .int .i64 (time + 1)])) .nilFunc ⟨0, 0, (0, 0, 0), (0, 0, 0)⟩ ga3 gn3 gc3 _).mono ?_
      rintro e v3a ⟨rfl, s3a, rfl⟩
      go_wp2_with fail
      refine (ctime_over 0 false (time + 1) _).mono ?_
      rintro e v3b ⟨rfl, s3b, rfl⟩
      go_wp2_with fail
      refine (awake26_any (HS.out.of (HE_Y3.out.trans (by (show Ext _ _; repeat first | (with_reducible first | (refine xH ?_; assumption) | exact xR _ | refine xX ?_ _ | refine xA ?_ _) | refine xD ?_ | refine xN ?_ _ | exact xR _))))).mono ?_
      rintro e v9 ⟨rfl, s9, rfl⟩
      go_wp2_with fail
      go_ret
      exact ⟨rfl, HE_Y3.out.trans (by (show Ext _ _; repeat first | (with_reducible first | (refine xH ?_; assumption) | exact xR _ | refine xX ?_ _ | refine xA ?_ _) | refine xD ?_ | refine xN ?_ _ | exact xR _))⟩


theorem cllater_any (time : Int) (x : Int) (hx : 0 ≤ x ∧ x ≤ 255) {v : Value} {l : List Pk} {w : World} (hs : Szs w) (hl : Sl w 3 pkE v l) : Calls Tryd.prog 4 #[.int .i64 time, .int .u8 x, v] w fun e w' => e = .returned (.bool true) ∧ Ext w w' := by
  obtain ⟨a, c, rfl, hm, hq⟩ := id hl
  have h2 : x % 2 = 0 ∨ x % 2 = 1 := by omega
  by_cases hln : l = []
  · rcases h2 with h2 | h2
    · exact cllater_none time x hx false 1 2 (by omega) rfl rfl hs hl hln
    · exact cllater_none time x hx true 2 1 (by omega) rfl rfl hs hl hln
  · obtain ⟨b', o', rfl, _⟩ := hq hln
    rcases h2 with h2 | h2
    · exact cllater_some time x hx false 1 2 (by omega) rfl rfl b' o' hs hl
    · exact cllater_some time x hx true 2 1 (by omega) rfl rfl b' o' hs hl

end Go.Proofs.YtaaammenbfinmaaDoor
