/- The law ClockRetries, walked. -/
import Derived.Test.YtaaammenbfinmaaDoorCd
namespace Go.Proofs.YtaaammenbfinmaaDoor
set_option linter.unusedSimpArgs false
set_option linter.unusedVariables false
open Go.RowKit Go.Maps

theorem slot_next {j jq : Nat} (h : jq = j + 1) : Value.int .i64 ((j : Int) + 1) = Value.int .i64 (jq : Int) := by subst h; simp
theorem slot_next' {j jq : Nat} {x : Int} (h : x = (jq : Int)) : Value.int .i64 x = Value.int .i64 (jq : Int) := by rw [h]
theorem le_next {n j jq : Nat} (h1 : j < n) (h2 : jq = j + 1) : jq ≤ n := by omega
theorem meas_next2 {most j jq : Nat} (h1 : j < most) (h2 : jq = j + 1) : most - (intOf (.int .i64 ((j : Int) + 1))).toNat < most - (intOf (.int .i64 (j : Int))).toNat := by
  simp only [intOf]; omega
theorem meas_next3 {most j jq : Nat} {x : Int} (h : x = (jq : Int)) (h1 : j < most) (h2 : jq = j + 1) : most - (intOf (.int .i64 x)).toNat < most - (intOf (.int .i64 (j : Int))).toNat := by
  simp only [intOf]; omega
theorem steps_ok {F gn j qn : Nat} {cv time : Int} (h : (F : Int) = cv - time) (hgs : (gn : Int) ≤ 1 + (cv - time)) (hcv : cv ≤ time + j) (hj : j ≤ qn) (hq : qn ≤ 100) : ∃ G1 H1 H2 : Int, wrap64 ((F : Int) - 1) = G1 ∧ wrap64 (2 + G1) = H1 ∧ wrap64 (2 + (F : Int)) = H2 ∧ ¬ H1 < (gn : Int) ∧ (gn : Int) ≤ H1 ∧ ¬ H2 < (gn : Int) ∧ (gn : Int) ≤ H2 := by
  refine ⟨(F : Int) - 1, 2 + ((F : Int) - 1), 2 + (F : Int), IntWalk.wrap64_in _ (by omega), IntWalk.wrap64_in _ (by omega), IntWalk.wrap64_in _ (by omega), by omega, by omega, by omega, by omega⟩
theorem ttt_at {j : Nat} (h : j < 3) : ([true, true, true] : List Bool)[j]? = some true := by
  have : j = 0 ∨ j = 1 ∨ j = 2 := by omega
  rcases this with rfl | rfl | rfl <;> rfl
theorem get3 {α : Type} {l : List α} (h : l.length = 3) {j : Nat} (hj : j < 3) : ∃ x, l[j]? = some x := ⟨l[j]'(by omega), List.getElem?_eq_getElem _⟩
theorem eq3 {j n : Nat} (h : j ≤ n) (h' : ¬ j < n) : j = n := by omega
theorem wq3 {j jq : Nat} (hj : j < 1000) (h : jq = j + 1) : wrap64 ((j : Int) + 1) = (jq : Int) := by rw [IntWalk.wrap64_in _ (by omega)]; omega
theorem lt_int {j n : Nat} (h : j < n) : (j : Int) < (n : Int) := by omega
theorem count_ok {α : Type} {l : List α} {p : α → Bool} {j F : Nat} (hF : F = (l.take j).countP p) (hj : j < 3) : F < 1000 := by
  have h2 := List.countP_le_length (p := p) (l := l.take j)
  rw [List.length_take] at h2; omega
theorem count_all {F : Nat} {ts : List (Tk ckK.C)} {x : Int} (hF : F = (ts.take 3).countP (fun k => k.d)) (h3 : ts.length = 3) (h : (ts.countP (fun k => k.d) : Int) = x) : (F : Int) = x := by
  rw [hF, List.take_of_length_le (by omega)]; exact h
theorem count_up {ts : List (Tk ckK.C)} {j jq F Fq : Nat} {k : Tk ckK.C} (hF : F = (ts.take j).countP (fun k => k.d)) (hk : ts[j]? = some k) (hq : jq = j + 1) (hFq : Fq = F + 1) (d : Bool) (hd : k.d = d) : (ts.take jq).countP (fun k => k.d) = if d = true then Fq else F := by
  subst hd
  rw [hq, take_snoc _ _ _ hk, List.countP_append, hFq, hF]
  by_cases h : k.d = true
  · simp [h]
  · simp [h]
/-- A pick. -/
abbrev Pk := Int × Int × Int
def pkE (p : Pk) : List Value := [.int .i64 p.1, .int .i64 p.2.1, .int .i64 p.2.2]
theorem pkE_len (p : Pk) : (pkE p).length = 3 := rfl

theorem stepR26 {time cv : Int} {ticks : List Bool} {ts : List (Tk ckK.C)} {bs : List Bool} {m : Mc} {n : Nat} (hg : G26 m (cv, 0, 0) n) (hn : n ≤ 1000) (hI : Inv time cv ticks ts n) (hbl : bs.length = ts.length) (hall : ∀ (i : Nat) (t : Bool), ticks[i]? = some t → t = true) (hc : (ts.countP (fun k => k.d) : Int) = cv - time) (t ch : Int) :
    ∃ m' ts' cv', G26 m' (cv', 0, 0) (n + 1) ∧ Inv time cv' ticks ts' (n + 1) ∧ (ts'.countP (fun k => k.d) : Int) = cv' - time ∧
      ∀ (W : World) (P : Nat → Prop) (v : Value), (∀ b, P b → b < W.heap.size) → WV ckK W P none 0 v m ts bs → Calls Tryd.prog 10 #[v, .agg #[.int .i64 0, .int .i64 t, .int .i64 ch]] W fun e w' => ∃ v' mv, e = .returned (.tuple #[v', .bool mv]) ∧ Ext W w' ∧ WV ckK w' (fun b => P b ∨ W.heap.size ≤ b) none 0 v' m' ts' bs := by
  rcases pick26 hg hn hI hbl 0 t ch (by omega) with h | ⟨h, _⟩ | ⟨_, i, k, k', tick, m', cv', ht, hk, htk, hd, hst, hg', hI', hTI, hres⟩
  · refine ⟨m, ts, cv, hg.up, hI.up, hc, fun W P v hP hv => (h W P v hv).mono ?_⟩
    rintro e w' ⟨rfl, he⟩
    exact ⟨v, false, rfl, he, (hv.of he).imp (fun b hb => .inl hb)⟩
  · omega
  · refine ⟨m', ts.set i k', cv', hg', hI', ?_, fun W P v hP hv => (hst W P v hP hv).mono ?_⟩
    · have h1 := countP_set (fun k => k.d) ts i k k' hk
      have h2 := hall i tick htk
      rw [hd] at h1
      obtain ⟨A, hA⟩ : ∃ A, A = ts.countP (fun k => k.d) := ⟨_, rfl⟩
      obtain ⟨B, hB⟩ : ∃ B, B = (ts.set i k').countP (fun k => k.d) := ⟨_, rfl⟩
      rw [← hA, ← hB] at h1
      rw [← hA] at hc
      rw [← hB]
      clear hA hB
      rcases hres with ⟨h3, h4⟩ | ⟨h3, _, h4, _⟩
      · have h5 : k'.d = false := by
          rcases h4 with h4 | ⟨h4, _⟩
          · exact h4
          · rw [h2] at h4; cases h4
        rw [h5] at h1
        simp only [Bool.false_eq_true, if_false] at h1
        omega
      · rw [h4] at h1
        simp only [Bool.false_eq_true, if_false, if_true] at h1
        omega
    · rintro e w' ⟨v', rfl, he, hv'⟩
      exact ⟨v', true, rfl, he, hv'⟩
/-- How many steps a task has made. -/
theorem TI.steps {time cv : Int} {k : Tk ckK.C} (h : TI time cv true k) (hc : time ≤ cv) : (k.g.length : Int) ≤ 1 + (cv - time) := by
  obtain ⟨c, a, d, g, rfl, e1, e2, h⟩ := h
  rcases h with ⟨_, _, _, rfl⟩ | ⟨_, _, _, o, _, h1, h2, h3⟩ | ⟨_, _, ⟨_, h1, h2, h3⟩ | ⟨h1, _⟩⟩
  · simp; omega
  · dsimp only; omega
  · dsimp only; omega
  · cases h1

set_option maxRecDepth 100000 in
set_option maxHeartbeats 4000000 in
theorem clretries_some (time : Int) (qb qo : Nat) {qn qc : Nat} {l : List Pk} {w : World} (hs : Szs w) (hl : Sl w 3 pkE (.slice (some ⟨qb, qo, none⟩) qn qc) l) : Calls Tryd.prog 6 #[.int .i64 time, .slice (some ⟨qb, qo, none⟩) qn qc] w fun e w' => e = .returned (.bool true) ∧ Ext w w' := by
  have hqn : qn = l.length := by obtain ⟨a', c', hv, _⟩ := hl; simp only [Value.slice.injEq] at hv; exact hv.2.1
  have HS := hid hs
  have HL := hid hl
  have HQ := hid hqn
  clear hs hl hqn
  by_cases h1 : 100 < qn
  · have h1i : (100 : Int) < (qn : Int) := by omega
    clear h1
    go_enter Tryd.func6, Tryd.ntmps6
    go_wp2_with fail
    refine (awake26_any (HS.out.of (by (show Ext _ _; repeat first | (with_reducible first | (refine xH ?_; assumption) | exact xR _ | refine xX ?_ _ | refine xA ?_ _) | refine xD ?_ | refine xN ?_ _ | exact xR _)))).mono ?_
    rintro e w6 ⟨rfl, r6, rfl⟩
    go_wp2_with fail
    go_ret
    exact ⟨rfl, by (show Ext _ _; repeat first | (with_reducible first | (refine xH ?_; assumption) | exact xR _ | refine xX ?_ _ | refine xA ?_ _) | refine xD ?_ | refine xN ?_ _ | exact xR _)⟩
  have h1i : ¬ (100 : Int) < (qn : Int) := by omega
  have h1j : (qn : Int) ≤ 100 := by omega
  have h1d : decide ((100 : Int) < (qn : Int)) = false := decide_eq_false h1i
  have HQ2 := hid (show qn ≤ 100 by omega)
  clear h1
  by_cases h2 : time < -1125899906842624
  · go_enter Tryd.func6, Tryd.ntmps6
    go_wp2_with fail
    refine (awake26_any (HS.out.of (by (show Ext _ _; repeat first | (with_reducible first | (refine xH ?_; assumption) | exact xR _ | refine xX ?_ _ | refine xA ?_ _) | refine xD ?_ | refine xN ?_ _ | exact xR _)))).mono ?_
    rintro e w6 ⟨rfl, r6, rfl⟩
    go_wp2_with fail
    go_ret
    exact ⟨rfl, by (show Ext _ _; repeat first | (with_reducible first | (refine xH ?_; assumption) | exact xR _ | refine xX ?_ _ | refine xA ?_ _) | refine xD ?_ | refine xN ?_ _ | exact xR _)⟩
  have h2i : (-1125899906842624 : Int) ≤ time := by omega
  have h2d : decide (time < -1125899906842624) = false := decide_eq_false h2
  by_cases h3 : 1125899906842624 < time
  · go_enter Tryd.func6, Tryd.ntmps6
    go_wp2_with fail
    refine (awake26_any (HS.out.of (by (show Ext _ _; repeat first | (with_reducible first | (refine xH ?_; assumption) | exact xR _ | refine xX ?_ _ | refine xA ?_ _) | refine xD ?_ | refine xN ?_ _ | exact xR _)))).mono ?_
    rintro e w6 ⟨rfl, r6, rfl⟩
    go_wp2_with fail
    go_ret
    exact ⟨rfl, by (show Ext _ _; repeat first | (with_reducible first | (refine xH ?_; assumption) | exact xR _ | refine xX ?_ _ | refine xA ?_ _) | refine xD ?_ | refine xN ?_ _ | exact xR _)⟩
  have h3i : time ≤ 1125899906842624 := by omega
  have h3d : decide ((1125899906842624 : Int) < time) = false := decide_eq_false h3
  have HT := hid (show -1125899906842624 ≤ time ∧ time ≤ 1125899906842624 from ⟨h2i, h3i⟩)
  go_enter Tryd.func6, Tryd.ntmps6
  go_wp2_with fail
  refine (start26_any (HS.out.of (by (show Ext _ _; repeat first | (with_reducible first | (refine xH ?_; assumption) | exact xR _ | refine xX ?_ _ | refine xA ?_ _) | refine xD ?_ | refine xN ?_ _ | exact xR _))) time (l := [true, true, true]) (sl_blk blE_len (Blk.new _ _ rfl rfl) (by simp) (by simp)) (by simp)).mono ?_
  rintro e w1 ⟨v1, rfl, he, hv⟩
  have HE_1 := hid (Ext.trans (show Ext w _ by (show Ext _ _; repeat first | (with_reducible first | (refine xH ?_; assumption) | exact xR _ | refine xX ?_ _ | refine xA ?_ _) | refine xD ?_ | refine xN ?_ _ | exact xR _)) he)
  clear he
  obtain ⟨pa, va, fa, la, sa, ta, ba, pn, pc, vn, vc, fn, fc, ln, lc, sn, sc, tn, tc, bn, bc, rfl, hw⟩ := hv
  have HW := hid (WR.imp (P' := fun b => w.heap.size ≤ b) hw (fun b h => by simp at h; omega))
  clear hw
  go_upto_region 6 with fail
  generalize hV_ : World.alloc _ _ = X
  have HE_X := hid (show Ext w1 X by rw [← hV_]; (show Ext _ _; repeat first | (with_reducible first | (refine xH ?_; assumption) | exact xR _ | refine xX ?_ _ | refine xA ?_ _) | refine xD ?_ | refine xN ?_ _ | exact xR _))
  have HB_b1 := hid (show Blk X (w1.heap.size) [.slice pa pn pc, .slice va vn vc, .slice fa fn fc, .slice la ln lc, .map none, .slice sa sn sc, .int .i64 0, .slice ta tn tc, .slice ba bn bc] by rw [← hV_]; (show Blk _ _ _; repeat first | (with_reducible first | (refine xH ?_; assumption) | refine bD ?_ | refine bX ?_ _) | (with_reducible refine bN _ _ rfl ?_; first | with_reducible rfl | (simp; done)) | (with_reducible first | refine bA ?_ _ | assumption | apply bS) | (with_reducible refine bO ?_ ?_; first | omega | (simp; omega)) | (show List.set _ _ _ = _; exact rfl) | (show _ < List.length _; simp; done)))
  clear hV_
  obtain ⟨b1, hg_b1⟩ : ∃ g, g = w1.heap.size := ⟨_, rfl⟩
  simp only [← hg_b1] at HB_b1 ⊢
  have HN_X := hid (show b1 = w1.heap.size ∧ b1 < X.heap.size from ⟨hg_b1, HB_b1.out.1⟩)
  clear hg_b1
  clear h1i h1j h1d h2 h2i h2d h3 h3i h3d
  have HwX := hid (HE_1.out.trans HE_X.out)
  have HNX := hid (show w1.heap.size = b1 ∧ b1 < X.heap.size ∧ w.heap.size ≤ w1.heap.size by have h1 := HN_X.out; have h2 := HE_1.out.size; omega)
  go_wp2_with fail
  go_loopw [37] (fun i_ wr => ∃ (j : Nat), j ≤ qn ∧ i_ = .int .i64 j ∧ ∃ (pa1 va1 fa1 la1 sa1 ta1 ba1 : Option Addr) (pn1 pc1 vn1 vc1 fn1 fc1 ln1 lc1 sn1 sc1 tn1 tc1 bn1 bc1 : Nat) (m : Mc) (ts : List (Tk ckK.C)) (cv : Int), Hid (Blk wr b1 [.slice pa1 pn1 pc1, .slice va1 vn1 vc1, .slice fa1 fn1 fc1, .slice la1 ln1 lc1, .map none, .slice sa1 sn1 sc1, .int .i64 0, .slice ta1 tn1 tc1, .slice ba1 bn1 bc1]) ∧ Hid (WR ckK wr (fun b => (w.heap.size ≤ b ∧ b < w1.heap.size) ∨ X.heap.size ≤ b) (.slice pa1 pn1 pc1) (.slice va1 vn1 vc1) (.slice fa1 fn1 fc1) (.slice la1 ln1 lc1) (.slice sa1 sn1 sc1) (.slice ta1 tn1 tc1) (.slice ba1 bn1 bc1) m ts [false, false, false]) ∧ Hid (GrL [b1] X wr) ∧ Hid (G26 m (cv, 0, 0) j ∧ Inv time cv [true, true, true] ts j ∧ (ts.countP (fun k => k.d) : Int) = cv - time)) (fun i_ _ => qn - (intOf i_).toNat)
  case atStart =>
    refine ⟨0, Nat.zero_le _, rfl, pa, va, fa, la, sa, ta, ba, pn, pc, vn, vc, fn, fc, ln, lc, sn, sc, tn, tc, bn, bc, _, _, time, HB_b1, hid (WR.imp (WR.of HW.out.bnd HE_X.out) (fun b hb => .inl hb)), hid GrL.refl, hid ⟨mc26_good time, Inv.start time [true, true, true] rfl HT.out, ?_⟩⟩
    simp only [tk26_0, List.map_cons, List.map_nil]
    simp
  case round =>
    clear HB_b1 HW
    obtain ⟨j, hjn, rfl, pa1, va1, fa1, la1, sa1, ta1, ba1, pn1, pc1, vn1, vc1, fn1, fc1, ln1, lc1, sn1, sc1, tn1, tc1, bn1, bc1, m, ts, cv, HB, HW, HG, HI⟩ := hrel
    have HJn := hid hjn
    clear hjn
    have HEr := hid (HwX.out.grl HG.out (by have := HNX.out; simp; omega))
    by_cases hjm : j < qn
    · have hjm2 : (j : Int) < (qn : Int) := by omega
      obtain ⟨⟨k1, k2, k3⟩, hp⟩ : ∃ x, l[j]? = some x := ⟨l[j]'(by have := HQ.out; omega), List.getElem?_eq_getElem _⟩
      obtain ⟨hx_, qb1, qo1, hqa, hqb, hqx⟩ := (HL.out.of pkE_len HEr.out).at hp
      obtain ⟨rfl, rfl⟩ : qb = qb1 ∧ qo = qo1 := by simpa using hqa
      obtain ⟨jq, hjq⟩ : ∃ x, x = j + 1 := ⟨_, rfl⟩
      have hwq : wrap64 ((j : Int) + 1) = (jq : Int) := by have := HQ2.out; rw [IntWalk.wrap64_in _ (by omega)]; omega
      have HJm := hid hjm
      have HJq := hid hjq
      have x0 := hqx 0 (by omega)
      have x1 := hqx 1 (by omega)
      have x2 := hqx 2 (by omega)
      simp [pkE] at x0 x1 x2
      clear hp hx_ hqx hjm hjq hqa
      go_upto_region 9 with fail
      generalize hV_ : World.alloc _ _ = Y
      have HE_Y := hid (show Ext wr Y by rw [← hV_]; (show Ext _ _; repeat first | (with_reducible first | (refine xH ?_; assumption) | exact xR _ | refine xX ?_ _ | refine xA ?_ _) | refine xD ?_ | refine xN ?_ _ | exact xR _))
      have HB_b8 := hid (show Blk Y (wr.heap.size) [.int .i64 k1, .int .i64 k2, .int .i64 k3] by rw [← hV_]; (show Blk _ _ _; repeat first | (with_reducible first | (refine xH ?_; assumption) | refine bD ?_ | refine bX ?_ _) | (with_reducible refine bN _ _ rfl ?_; first | with_reducible rfl | (simp; done)) | (with_reducible first | refine bA ?_ _ | assumption | apply bS) | (with_reducible refine bO ?_ ?_; first | omega | (simp; omega)) | (show List.set _ _ _ = _; exact rfl) | (show _ < List.length _; simp; done)))
      clear hV_
      obtain ⟨b8, hg_b8⟩ : ∃ g, g = wr.heap.size := ⟨_, rfl⟩
      simp only [← hg_b8] at HB_b8 ⊢
      have HN_Y := hid (show b8 = wr.heap.size ∧ b8 < Y.heap.size from ⟨hg_b8, HB_b8.out.1⟩)
      clear hg_b8
      clear x0 x1 x2 hqb
      have e0 := (HB_b8.out).2.2 0 _ rfl
      have e1 := (HB_b8.out).2.2 1 _ rfl
      have e2 := (HB_b8.out).2.2 2 _ rfl
      have ef := (HB_b8.out).2.1
      have eg := (HB_b8.out).1
      by_cases hk1 : k1 = 0
      · subst hk1
        obtain ⟨m', ts', cv', hg1, hg2, hg3, hstep⟩ := stepR26 (bs := [false, false, false]) HI.out.1 (by have := HJm.out; have := HQ2.out; omega) HI.out.2.1 (by rw [HI.out.2.1.len]; rfl) (fun i t h => by
          rcases i with _ | _ | _ | i <;> simp at h <;> exact h) HI.out.2.2 k2 k3
        have HI' := hid (And.intro hg1 (And.intro hg2 hg3))
        clear hg1 hg2 hg3
        have h1 := HB.out.of HE_Y.out
        have f0 := (h1).2.2 0 _ rfl
        have f1 := (h1).2.2 1 _ rfl
        have f2 := (h1).2.2 2 _ rfl
        have f3 := (h1).2.2 3 _ rfl
        have f4 := (h1).2.2 4 _ rfl
        have f5 := (h1).2.2 5 _ rfl
        have f6 := (h1).2.2 6 _ rfl
        have f7 := (h1).2.2 7 _ rfl
        have f8 := (h1).2.2 8 _ rfl
        have ff := (h1).2.1
        have fg := (h1).1
        clear h1
        go_wp2_with fail
        refine (hstep Y (fun b => ((w.heap.size ≤ b ∧ b < w1.heap.size) ∨ X.heap.size ≤ b) ∧ b < wr.heap.size) _ (fun b h => by have h1 := h.2; have h2 := HE_Y.out.size; omega) ((WV.bnd ⟨_, _, _, _, _, _, _, _, _, _, _, _, _, _, _, _, _, _, _, _, _, rfl, HW.out⟩).of HE_Y.out)).mono ?_
        rintro e w2 ⟨v', mv, rfl, he, hv⟩
        obtain ⟨pa2, va2, fa2, la2, sa2, ta2, ba2, pn2, pc2, vn2, vc2, fn2, fc2, ln2, lc2, sn2, sc2, tn2, tc2, bn2, bc2, rfl, hw⟩ := hv
        have HE2 := hid he
        have HW2 := hid hw
        have h3 := HB.out.of (HE_Y.out.trans he)
        clear he hw hstep f0 f1 f2 f3 f4 f5 f6 f7 f8 ff fg e0 e1 e2 ef eg
        have f0 := (h3).2.2 0 _ rfl
        have f1 := (h3).2.2 1 _ rfl
        have f2 := (h3).2.2 2 _ rfl
        have f3 := (h3).2.2 3 _ rfl
        have f4 := (h3).2.2 4 _ rfl
        have f5 := (h3).2.2 5 _ rfl
        have f6 := (h3).2.2 6 _ rfl
        have f7 := (h3).2.2 7 _ rfl
        have f8 := (h3).2.2 8 _ rfl
        have ff := (h3).2.1
        have fg := (h3).1
        have HB2 := hid h3
        clear h3
        go_upto_region 11 with fail
        generalize hZ_ : World.setCell _ _ _ = Z
        have HGZ := hid (show GrL [b1] w2 Z by rw [← hZ_]; (show GrL _ _ _; repeat (first | with_reducible exact GrL.refl | ((with_reducible refine GrL.set ?_ ?_ _); rotate_left 1; focus (simp; done)) | ((with_reducible refine GrL.ext ?_ _)) | ((with_reducible refine GrL.alloc ?_ _)) | ((with_reducible refine GrL.drew ?_)))))
        have HBZ := hid (show Blk Z b1 [.slice pa2 pn2 pc2, .slice va2 vn2 vc2, .slice fa2 fn2 fc2, .slice la2 ln2 lc2, .map none, .slice sa2 sn2 sc2, .int .i64 0, .slice ta2 tn2 tc2, .slice ba2 bn2 bc2] by rw [← hZ_]; have h3 := HB2.out; (show Blk _ _ _; (with_reducible apply Blk.cast); (repeat first | (with_reducible first | (refine xH ?_; assumption) | assumption | apply bD | apply bX | apply bA | apply Blk.set) | ((with_reducible apply bO); first | omega | (simp; omega))); all_goals (first | rfl | (simp; done))))
        clear hZ_ f0 f1 f2 f3 f4 f5 f6 f7 f8 ff fg
        go_wp2_with fail
        go_roundw
        case rel =>
          have hnx := HNX.out
          have hgs := HG.out.size
          have hys := HE_Y.out.size
          refine ⟨jq, le_next HJm.out HJq.out, by first | exact slot_next' hwq | exact slot_next HJq.out | (rw [hwq]), _, _, _, _, _, _, _, _, _, _, _, _, _, _, _, _, _, _, _, _, _, m', ts', cv', HBZ, hid ?_, hid ((HG.out.trans (GrL.of_ext (HE_Y.out.trans HE2.out))).trans HGZ.out), by rw [HJq.out]; exact HI'⟩
          refine WR.imp (WR.kp (WR.bnd HW2.out) (HGZ.out.kp (fun g hg h => ?_))) (fun b h => ?_)
          · simp only [List.mem_cons, List.not_mem_nil, or_false] at hg
            subst hg
            rcases h.1 with h | h
            · rcases h.1 with h | h
              · have := h.2; omega
              · omega
            · omega
          · rcases h.1 with h | h
            · exact h.1
            · exact .inr (by omega)
        case measure => first | exact meas_next2 HJm.out HJq.out | exact meas_next3 hwq HJm.out HJq.out | exact meas_next HJm.out HJq.out
      · have hk1d : (k1 = 0) = False := eq_false hk1
        go_wp2_with fail
        go_roundw
        case rel => exact ⟨jq, le_next HJm.out HJq.out, by first | exact slot_next' hwq | exact slot_next HJq.out | (rw [hwq]), _, _, _, _, _, _, _, _, _, _, _, _, _, _, _, _, _, _, _, _, _, m, ts, cv, hid (HB.out.of HE_Y.out), hid (WR.of HW.out HE_Y.out), hid (HG.out.trans (GrL.of_ext HE_Y.out)), by rw [HJq.out]; exact hid ⟨HI.out.1.up, HI.out.2.1.up, HI.out.2.2⟩⟩
        case measure => first | exact meas_next2 HJm.out HJq.out | exact meas_next3 hwq HJm.out HJq.out | exact meas_next HJm.out HJq.out
    · have hjq_ : j = qn := by have := HJn.out; omega
      have hjm2 : ¬ (j : Int) < (qn : Int) := by omega
      have hjm3 : (qn : Int) ≤ (j : Int) := by omega
      clear hjm
      have hts : ts.length = 3 := by rw [HI.out.2.1.len]; rfl
      obtain rfl : tn1 = 3 := by have := HW.out.2.1.len; omega
      obtain ⟨k0_, hk0_⟩ : ∃ x, ts[0]? = some x := ⟨ts[0]'(by omega), List.getElem?_eq_getElem _⟩
      obtain ⟨r0_, tbb, tbo, hta, -, -, -, -⟩ := HW.out.2.1.at hk0_
      subst hta
      clear hk0_ r0_ k0_
      have HTl := hid hts
      clear hts
      have HwU := HEr
      have f0 := (HB.out).2.2 0 _ rfl
      have f1 := (HB.out).2.2 1 _ rfl
      have f2 := (HB.out).2.2 2 _ rfl
      have f3 := (HB.out).2.2 3 _ rfl
      have f4 := (HB.out).2.2 4 _ rfl
      have f5 := (HB.out).2.2 5 _ rfl
      have f6 := (HB.out).2.2 6 _ rfl
      have f7 := (HB.out).2.2 7 _ rfl
      have f8 := (HB.out).2.2 8 _ rfl
      have ff := (HB.out).2.1
      have fg := (HB.out).1
      clear f0 f1 f2 f3 f4 f5 f6 f8 ff
      go_wp2_with fail
      clear f7 fg
      obtain ⟨U, hU⟩ : ∃ U, U = wr := ⟨_, rfl⟩
      have HUe := hid (show Ext U wr by rw [hU]; exact Ext.refl _)
      have HWU := hid (show WR ckK U (fun b => (w.heap.size ≤ b ∧ b < w1.heap.size) ∨ X.heap.size ≤ b) (.slice pa1 pn1 pc1) (.slice va1 vn1 vc1) (.slice fa1 fn1 fc1) (.slice la1 ln1 lc1) (.slice sa1 sn1 sc1) (.slice (some ⟨tbb, tbo, none⟩) 3 tc1) (.slice ba1 bn1 bc1) m ts [false, false, false] by rw [hU]; exact HW.out)
      have HBU := hid (show Blk U b1 [.slice pa1 pn1 pc1, .slice va1 vn1 vc1, .slice fa1 fn1 fc1, .slice la1 ln1 lc1, .map none, .slice sa1 sn1 sc1, .int .i64 0, .slice (some ⟨tbb, tbo, none⟩) 3 tc1, .slice ba1 bn1 bc1] by rw [hU]; exact HB.out)
      have HwU2 := hid (show Ext w U by rw [hU]; exact HwU.out)
      clear hU HW HB HG HwU HEr
      go_loopw [9, 54] (fun f_ i_ wr => ∃ (j2 : Nat), j2 ≤ 3 ∧ i_ = .int .i64 j2 ∧ f_ = .int .i64 ((ts.take j2).countP (fun k => k.d) : Nat) ∧ Hid (Ext U wr)) (fun _ i_ _ => 3 - (intOf i_).toNat)
      case atStart => exact ⟨0, by omega, rfl, rfl, HUe⟩
      case round =>
        clear HUe
        obtain ⟨j2, hj2, rfl, hf_, HE2⟩ := hrel
        obtain ⟨F, hF⟩ : ∃ F, F = (ts.take j2).countP (fun k => k.d) := ⟨_, rfl⟩
        rw [← hF] at hf_
        subst hf_
        have HF := hid hF
        clear hF
        by_cases hjm : j2 < 3
        · have hjm2 : (j2 : Int) < 3 := lt_int hjm
          obtain ⟨k, hk⟩ := get3 HTl.out hjm
          obtain ⟨jq, hjq⟩ : ∃ x, x = j2 + 1 := ⟨_, rfl⟩
          have hwq := wq3 (Nat.lt_trans hjm (by decide)) hjq
          obtain ⟨Fq, hFq⟩ : ∃ x, x = F + 1 := ⟨_, rfl⟩
          have hwf := wq3 (count_ok HF.out hjm) hFq
          have HJm := hid hjm
          have HJq := hid hjq
          have HFq := hid hFq
          have HK := hid hk
          have HW2 := hid (HWU.out.of HE2.out)
          obtain ⟨r, tb, tof, hta, htb, htp, htr, htc⟩ := HW2.out.2.1.at hk
          obtain ⟨rfl, rfl⟩ : tbb = tb ∧ tbo = tof := by simpa using hta
          obtain ⟨cv1, ⟨a0, d⟩, ga, gn, gc⟩ := r
          obtain ⟨hrd, -, hrg⟩ := htr
          dsimp only at hrd hrg htc
          have hgn := hrg.lenN
          cases hrd
          obtain ⟨c0, hc0⟩ : ∃ x, x = cv1 := ⟨_, rfl⟩
          obtain ⟨a', ha'⟩ : ∃ x, x = if k.d = true then a8Z else k.a := ⟨_, rfl⟩
          unfold tkE at htc
          dsimp only at htc
          rw [← ha'] at htc
          obtain ⟨p1, p2, ⟨p3, p4, p5⟩, p6, p7, p8⟩ := a'
          have x0 := htc 0 (by omega)
          have hx1_ := htc 1 (by omega)
          have x2 := htc 2 (by omega)
          have x3 := htc 3 (by omega)
          have x4 := htc 4 (by omega)
          have x5 := htc 5 (by omega)
          have x6 := htc 6 (by omega)
          have x7 := htc 7 (by omega)
          have x8 := htc 8 (by omega)
          have x9 := htc 9 (by omega)
          have x10 := htc 10 (by omega)
          simp [tkL] at x0 hx1_ x2 x3 x4 x5 x6 x7 x8 x9 x10
          clear hc0 c0
          clear hk hjm hjq hFq ha' htc hta htp hrg hgn
          cases hkd : k.d
          · rw [hkd] at hx1_
            simp only [nxV, Bool.false_eq_true, if_false, if_true] at hx1_
            go_upto_region 16 with fail
            generalize hV_ : World.alloc _ _ = U2
            have HE_U2 := hid (show Ext wr U2 by rw [← hV_]; (show Ext _ _; repeat first | (with_reducible first | (refine xH ?_; assumption) | exact xR _ | refine xX ?_ _ | refine xA ?_ _) | refine xD ?_ | refine xN ?_ _ | exact xR _))
            have HB_b11 := hid (show Blk U2 (wr.heap.size) [.iface ckT cv1, .func (.method "Next") #[.iface ckT cv1] #[], .int .i64 p1, .int .i64 p2, .int .i64 p3, .int .u32 p4, .int .u32 p5, .int .i64 p6, .int .u32 p7, .int .u32 p8, .slice ga gn gc] by rw [← hV_]; (show Blk _ _ _; repeat first | (with_reducible first | (refine xH ?_; assumption) | refine bD ?_ | refine bX ?_ _) | (with_reducible refine bN _ _ rfl ?_; first | with_reducible rfl | (simp; done)) | (with_reducible first | refine bA ?_ _ | assumption | apply bS) | (with_reducible refine bO ?_ ?_; first | omega | (simp; omega)) | (show List.set _ _ _ = _; exact rfl) | (show _ < List.length _; simp; done)))
            clear hV_
            obtain ⟨b11, hg_b11⟩ : ∃ g, g = wr.heap.size := ⟨_, rfl⟩
            simp only [← hg_b11] at HB_b11 ⊢
            have HN_U2 := hid (show b11 = wr.heap.size ∧ b11 < U2.heap.size from ⟨hg_b11, HB_b11.out.1⟩)
            clear hg_b11
            clear x0 hx1_ x2 x3 x4 x5 x6 x7 x8 x9 x10 htb
            obtain ⟨x0, x1, x2, x3, x4, x5, x6, x7, x8, x9, x10⟩ := Blk.at11 HB_b11.out
            have xg := HB_b11.out.1
            go_wp2_with fail
            refine (tdone_any (.iface ckT cv1) (.func (.method "Next") #[.iface ckT cv1] #[]) false (.inr ⟨rfl, _, _, _, rfl⟩) ⟨p1, p2, (p3, p4, p5), (p6, p7, p8)⟩ ga gn gc U2).mono ?_
            rintro e w5 ⟨rfl, r5, rfl⟩
            clear x0 x1 x2 x3 x4 x5 x6 x7 x8 x9 x10 xg
            go_wp2_with fail
            go_roundw
            case rel => exact ⟨jq, le_next HJm.out HJq.out, by first | exact slot_next HJq.out | exact slot_next' hwq | rfl, by
                have e1 := count_up HF.out HK.out HJq.out HFq.out false hkd
                simp only [Bool.false_eq_true, if_false, if_true] at e1
                rw [e1], hid ((HE2.out.trans HE_U2.out).ext r5)⟩
            case measure => first | exact meas_next2 HJm.out HJq.out | exact meas_next3 hwq HJm.out HJq.out | exact meas_next HJm.out HJq.out
          · rw [hkd] at hx1_
            simp only [nxV, Bool.false_eq_true, if_false, if_true] at hx1_
            go_upto_region 16 with fail
            generalize hV_ : World.alloc _ _ = U2
            have HE_U2 := hid (show Ext wr U2 by rw [← hV_]; (show Ext _ _; repeat first | (with_reducible first | (refine xH ?_; assumption) | exact xR _ | refine xX ?_ _ | refine xA ?_ _) | refine xD ?_ | refine xN ?_ _ | exact xR _))
            have HB_b11 := hid (show Blk U2 (wr.heap.size) [.iface ckT cv1, .nilFunc, .int .i64 p1, .int .i64 p2, .int .i64 p3, .int .u32 p4, .int .u32 p5, .int .i64 p6, .int .u32 p7, .int .u32 p8, .slice ga gn gc] by rw [← hV_]; (show Blk _ _ _; repeat first | (with_reducible first | (refine xH ?_; assumption) | refine bD ?_ | refine bX ?_ _) | (with_reducible refine bN _ _ rfl ?_; first | with_reducible rfl | (simp; done)) | (with_reducible first | refine bA ?_ _ | assumption | apply bS) | (with_reducible refine bO ?_ ?_; first | omega | (simp; omega)) | (show List.set _ _ _ = _; exact rfl) | (show _ < List.length _; simp; done)))
            clear hV_
            obtain ⟨b11, hg_b11⟩ : ∃ g, g = wr.heap.size := ⟨_, rfl⟩
            simp only [← hg_b11] at HB_b11 ⊢
            have HN_U2 := hid (show b11 = wr.heap.size ∧ b11 < U2.heap.size from ⟨hg_b11, HB_b11.out.1⟩)
            clear hg_b11
            clear x0 hx1_ x2 x3 x4 x5 x6 x7 x8 x9 x10 htb
            obtain ⟨x0, x1, x2, x3, x4, x5, x6, x7, x8, x9, x10⟩ := Blk.at11 HB_b11.out
            have xg := HB_b11.out.1
            go_wp2_with fail
            refine (tdone_any (.iface ckT cv1) (.nilFunc) true (.inl ⟨rfl, rfl⟩) ⟨p1, p2, (p3, p4, p5), (p6, p7, p8)⟩ ga gn gc U2).mono ?_
            rintro e w5 ⟨rfl, r5, rfl⟩
            clear x0 x1 x2 x3 x4 x5 x6 x7 x8 x9 x10 xg
            go_wp2_with fail
            go_roundw
            case rel => exact ⟨jq, le_next HJm.out HJq.out, by first | exact slot_next HJq.out | exact slot_next' hwq | rfl, by
                have e1 := count_up HF.out HK.out HJq.out HFq.out true hkd
                simp only [Bool.false_eq_true, if_false, if_true] at e1
                rw [e1]; first | exact slot_next HFq.out | exact slot_next' hwf | rw [hwf], hid ((HE2.out.trans HE_U2.out).ext r5)⟩
            case measure => first | exact meas_next2 HJm.out HJq.out | exact meas_next3 hwq HJm.out HJq.out | exact meas_next HJm.out HJq.out
        · have hj3 : j2 = 3 := eq3 hj2 hjm
          subst hj3
          have hF3 : (F : Int) = cv - time := count_all HF.out HTl.out HI.out.2.2
          have HF3 := hid hF3
          have HE3 := HE2
          have h5 := HBU.out.of HE2.out
          have f0 := (h5).2.2 0 _ rfl
          have f1 := (h5).2.2 1 _ rfl
          have f2 := (h5).2.2 2 _ rfl
          have f3 := (h5).2.2 3 _ rfl
          have f4 := (h5).2.2 4 _ rfl
          have f5 := (h5).2.2 5 _ rfl
          have f6 := (h5).2.2 6 _ rfl
          have f7 := (h5).2.2 7 _ rfl
          have f8 := (h5).2.2 8 _ rfl
          have ff := (h5).2.1
          have fg := (h5).1
          clear h5 f0 f1 f2 f3 f4 f5 f6 f8 ff hjm hF3
          go_wp2_with fail
          clear f7 fg
          have HE3 := hid HE2.out
          clear HE2
          obtain ⟨U3, hU3⟩ : ∃ U, U = wr := ⟨_, rfl⟩
          have HUe := hid (show Ext U3 wr by rw [hU3]; exact Ext.refl _)
          have HUU := hid (show Ext U U3 by rw [hU3]; exact HE3.out)
          clear hU3 HE3
          go_loopw [66] (fun i_ wr => ∃ (j2 : Nat), j2 ≤ 3 ∧ i_ = .int .i64 j2 ∧ Hid (Ext U3 wr)) (fun i_ _ => 3 - (intOf i_).toNat)
          case atStart => exact ⟨0, by omega, rfl, HUe⟩
          case round =>
            clear HUe
            obtain ⟨j2, hj2, rfl, HE2⟩ := hrel
            by_cases hjm : j2 < 3
            · have hjm2 : (j2 : Int) < 3 := lt_int hjm
              obtain ⟨k, hk⟩ := get3 HTl.out hjm
              obtain ⟨jq, hjq⟩ : ∃ x, x = j2 + 1 := ⟨_, rfl⟩
              have hwq := wq3 (Nat.lt_trans hjm (by decide)) hjq
              have HJm := hid hjm
              have HJq := hid hjq
              have HW2 := hid (HWU.out.of (HUU.out.trans HE2.out))
              obtain ⟨r, tb, tof, hta, htb, htp, htr, htc⟩ := HW2.out.2.1.at hk
              obtain ⟨rfl, rfl⟩ : tbb = tb ∧ tbo = tof := by simpa using hta
              obtain ⟨cv1, ⟨a0, d⟩, ga, gn, gc⟩ := r
              obtain ⟨hrd, -, hrg⟩ := htr
              dsimp only at hrd hrg htc
              have hgn := hrg.lenN
              cases hrd
              obtain ⟨c0, hc0⟩ : ∃ x, x = cv1 := ⟨_, rfl⟩
              obtain ⟨a', ha'⟩ : ∃ x, x = if k.d = true then a8Z else k.a := ⟨_, rfl⟩
              unfold tkE at htc
              dsimp only at htc
              rw [← ha'] at htc
              obtain ⟨p1, p2, ⟨p3, p4, p5⟩, p6, p7, p8⟩ := a'
              have x0 := htc 0 (by omega)
              have hx1_ := htc 1 (by omega)
              have x2 := htc 2 (by omega)
              have x3 := htc 3 (by omega)
              have x4 := htc 4 (by omega)
              have x5 := htc 5 (by omega)
              have x6 := htc 6 (by omega)
              have x7 := htc 7 (by omega)
              have x8 := htc 8 (by omega)
              have x9 := htc 9 (by omega)
              have x10 := htc 10 (by omega)
              simp [tkL] at x0 hx1_ x2 x3 x4 x5 x6 x7 x8 x9 x10
              clear hc0 c0
              have hti : TI time cv true k := HI.out.2.1.all j2 k true hk (ttt_at hjm)
              have hgs := hti.steps HI.out.2.1.cv.1
              rw [← hgn] at hgs
              obtain ⟨G1, H1, H2, hwg, hwh, hwi, hc1, hc1b, hc2, hc2b⟩ := steps_ok HF3.out hgs HI.out.2.1.cv.2 HJn.out HQ2.out
              clear hk hjm hjq ha' htc hta htp hrg hgn hti hgs
              cases hkd : k.d
              · rw [hkd] at hx1_
                simp only [nxV, Bool.false_eq_true, if_false, if_true] at hx1_
                go_upto_region 22 with fail
                generalize hV_ : World.alloc _ _ = U2
                have HE_U2 := hid (show Ext wr U2 by rw [← hV_]; (show Ext _ _; repeat first | (with_reducible first | (refine xH ?_; assumption) | exact xR _ | refine xX ?_ _ | refine xA ?_ _) | refine xD ?_ | refine xN ?_ _ | exact xR _))
                have HB_b13 := hid (show Blk U2 (wr.heap.size) [.iface ckT cv1, .func (.method "Next") #[.iface ckT cv1] #[], .int .i64 p1, .int .i64 p2, .int .i64 p3, .int .u32 p4, .int .u32 p5, .int .i64 p6, .int .u32 p7, .int .u32 p8, .slice ga gn gc] by rw [← hV_]; (show Blk _ _ _; repeat first | (with_reducible first | (refine xH ?_; assumption) | refine bD ?_ | refine bX ?_ _) | (with_reducible refine bN _ _ rfl ?_; first | with_reducible rfl | (simp; done)) | (with_reducible first | refine bA ?_ _ | assumption | apply bS) | (with_reducible refine bO ?_ ?_; first | omega | (simp; omega)) | (show List.set _ _ _ = _; exact rfl) | (show _ < List.length _; simp; done)))
                clear hV_
                obtain ⟨b13, hg_b13⟩ : ∃ g, g = wr.heap.size := ⟨_, rfl⟩
                simp only [← hg_b13] at HB_b13 ⊢
                have HN_U2 := hid (show b13 = wr.heap.size ∧ b13 < U2.heap.size from ⟨hg_b13, HB_b13.out.1⟩)
                clear hg_b13
                clear x0 hx1_ x2 x3 x4 x5 x6 x7 x8 x9 x10 htb
                obtain ⟨x0, x1, x2, x3, x4, x5, x6, x7, x8, x9, x10⟩ := Blk.at11 HB_b13.out
                have xg := HB_b13.out.1
                go_wp2_with fail
                refine (tdone_any (.iface ckT cv1) (.func (.method "Next") #[.iface ckT cv1] #[]) false (.inr ⟨rfl, _, _, _, rfl⟩) ⟨p1, p2, (p3, p4, p5), (p6, p7, p8)⟩ ga gn gc U2).mono ?_
                rintro e w5 ⟨rfl, r5, rfl⟩
                clear x0 x1 x2 x3 x4 x5 x6 x7 x8 x9 x10 xg
                obtain ⟨x0, x1, x2, x3, x4, x5, x6, x7, x8, x9, x10⟩ := Blk.at11 (HB_b13.out.ext r5)
                have xg := (HB_b13.out.ext r5).1
                go_wp2_with fail
                refine (tsteps_any (.iface ckT cv1) (.func (.method "Next") #[.iface ckT cv1] #[]) ⟨p1, p2, (p3, p4, p5), (p6, p7, p8)⟩ ga gn gc _).mono ?_
                rintro e w6 ⟨rfl, r6, rfl⟩
                clear x0 x1 x2 x3 x4 x5 x6 x7 x8 x9 x10 xg
                go_wp2_with fail
                go_roundw
                case rel => exact ⟨jq, le_next HJm.out HJq.out, by first | exact slot_next HJq.out | exact slot_next' hwq | rfl, hid (((HE2.out.trans HE_U2.out).ext r5).ext r6)⟩
                case measure => first | exact meas_next2 HJm.out HJq.out | exact meas_next3 hwq HJm.out HJq.out | exact meas_next HJm.out HJq.out
              · rw [hkd] at hx1_
                simp only [nxV, Bool.false_eq_true, if_false, if_true] at hx1_
                go_upto_region 22 with fail
                generalize hV_ : World.alloc _ _ = U2
                have HE_U2 := hid (show Ext wr U2 by rw [← hV_]; (show Ext _ _; repeat first | (with_reducible first | (refine xH ?_; assumption) | exact xR _ | refine xX ?_ _ | refine xA ?_ _) | refine xD ?_ | refine xN ?_ _ | exact xR _))
                have HB_b13 := hid (show Blk U2 (wr.heap.size) [.iface ckT cv1, .nilFunc, .int .i64 p1, .int .i64 p2, .int .i64 p3, .int .u32 p4, .int .u32 p5, .int .i64 p6, .int .u32 p7, .int .u32 p8, .slice ga gn gc] by rw [← hV_]; (show Blk _ _ _; repeat first | (with_reducible first | (refine xH ?_; assumption) | refine bD ?_ | refine bX ?_ _) | (with_reducible refine bN _ _ rfl ?_; first | with_reducible rfl | (simp; done)) | (with_reducible first | refine bA ?_ _ | assumption | apply bS) | (with_reducible refine bO ?_ ?_; first | omega | (simp; omega)) | (show List.set _ _ _ = _; exact rfl) | (show _ < List.length _; simp; done)))
                clear hV_
                obtain ⟨b13, hg_b13⟩ : ∃ g, g = wr.heap.size := ⟨_, rfl⟩
                simp only [← hg_b13] at HB_b13 ⊢
                have HN_U2 := hid (show b13 = wr.heap.size ∧ b13 < U2.heap.size from ⟨hg_b13, HB_b13.out.1⟩)
                clear hg_b13
                clear x0 hx1_ x2 x3 x4 x5 x6 x7 x8 x9 x10 htb
                obtain ⟨x0, x1, x2, x3, x4, x5, x6, x7, x8, x9, x10⟩ := Blk.at11 HB_b13.out
                have xg := HB_b13.out.1
                go_wp2_with fail
                refine (tdone_any (.iface ckT cv1) (.nilFunc) true (.inl ⟨rfl, rfl⟩) ⟨p1, p2, (p3, p4, p5), (p6, p7, p8)⟩ ga gn gc U2).mono ?_
                rintro e w5 ⟨rfl, r5, rfl⟩
                clear x0 x1 x2 x3 x4 x5 x6 x7 x8 x9 x10 xg
                obtain ⟨x0, x1, x2, x3, x4, x5, x6, x7, x8, x9, x10⟩ := Blk.at11 (HB_b13.out.ext r5)
                have xg := (HB_b13.out.ext r5).1
                go_wp2_with fail
                refine (tsteps_any (.iface ckT cv1) (.nilFunc) ⟨p1, p2, (p3, p4, p5), (p6, p7, p8)⟩ ga gn gc _).mono ?_
                rintro e w6 ⟨rfl, r6, rfl⟩
                clear x0 x1 x2 x3 x4 x5 x6 x7 x8 x9 x10 xg
                go_wp2_with fail
                go_roundw
                case rel => exact ⟨jq, le_next HJm.out HJq.out, by first | exact slot_next HJq.out | exact slot_next' hwq | rfl, hid (((HE2.out.trans HE_U2.out).ext r5).ext r6)⟩
                case measure => first | exact meas_next2 HJm.out HJq.out | exact meas_next3 hwq HJm.out HJq.out | exact meas_next HJm.out HJq.out
            · have hj3 : j2 = 3 := eq3 hj2 hjm
              subst hj3
              have hee := (HUU.out.trans HE2.out)
              have HEE := hid hee
              clear hee hjm
              go_wp2_with fail
              refine (awake26_any (HS.out.of (HwU2.out.trans HEE.out))).mono ?_
              rintro e w9 ⟨rfl, he9⟩
              have h5 := HBU.out.of (HEE.out.trans he9)
              have HE9 := hid ((HwU2.out.trans HEE.out).trans he9)
              clear he9
              have f0 := (h5).2.2 0 _ rfl
              have f1 := (h5).2.2 1 _ rfl
              have f2 := (h5).2.2 2 _ rfl
              have f3 := (h5).2.2 3 _ rfl
              have f4 := (h5).2.2 4 _ rfl
              have f5 := (h5).2.2 5 _ rfl
              have f6 := (h5).2.2 6 _ rfl
              have f7 := (h5).2.2 7 _ rfl
              have f8 := (h5).2.2 8 _ rfl
              have ff := (h5).2.1
              have fg := (h5).1
              clear h5 f0 f1 f2 f3 f4 f5 f6 f8 ff
              go_wp2_with fail
              go_ret
              exact ⟨rfl, HE9.out⟩
set_option maxRecDepth 100000 in
set_option maxHeartbeats 4000000 in
theorem clretries_none (time : Int) {qa : Option Addr} {qn qc : Nat} {l : List Pk} {w : World} (hs : Szs w) (hl : Sl w 3 pkE (.slice qa qn qc) l) (hl0 : l = []) : Calls Tryd.prog 6 #[.int .i64 time, .slice qa qn qc] w fun e w' => e = .returned (.bool true) ∧ Ext w w' := by
  have hqn : qn = l.length := by obtain ⟨a', c', hv, _⟩ := hl; simp only [Value.slice.injEq] at hv; exact hv.2.1
  have HS := hid hs
  have HL := hid hl
  have HL0 := hid hl0
  clear hl0
  have HQ := hid hqn
  clear hs hl hqn
  by_cases h1 : 100 < qn
  · have h1i : (100 : Int) < (qn : Int) := by omega
    clear h1
    go_enter Tryd.func6, Tryd.ntmps6
    go_wp2_with fail
    refine (awake26_any (HS.out.of (by (show Ext _ _; repeat first | (with_reducible first | (refine xH ?_; assumption) | exact xR _ | refine xX ?_ _ | refine xA ?_ _) | refine xD ?_ | refine xN ?_ _ | exact xR _)))).mono ?_
    rintro e w6 ⟨rfl, r6, rfl⟩
    go_wp2_with fail
    go_ret
    exact ⟨rfl, by (show Ext _ _; repeat first | (with_reducible first | (refine xH ?_; assumption) | exact xR _ | refine xX ?_ _ | refine xA ?_ _) | refine xD ?_ | refine xN ?_ _ | exact xR _)⟩
  have h1i : ¬ (100 : Int) < (qn : Int) := by omega
  have h1j : (qn : Int) ≤ 100 := by omega
  have h1d : decide ((100 : Int) < (qn : Int)) = false := decide_eq_false h1i
  have HQ2 := hid (show qn ≤ 100 by omega)
  clear h1
  by_cases h2 : time < -1125899906842624
  · go_enter Tryd.func6, Tryd.ntmps6
    go_wp2_with fail
    refine (awake26_any (HS.out.of (by (show Ext _ _; repeat first | (with_reducible first | (refine xH ?_; assumption) | exact xR _ | refine xX ?_ _ | refine xA ?_ _) | refine xD ?_ | refine xN ?_ _ | exact xR _)))).mono ?_
    rintro e w6 ⟨rfl, r6, rfl⟩
    go_wp2_with fail
    go_ret
    exact ⟨rfl, by (show Ext _ _; repeat first | (with_reducible first | (refine xH ?_; assumption) | exact xR _ | refine xX ?_ _ | refine xA ?_ _) | refine xD ?_ | refine xN ?_ _ | exact xR _)⟩
  have h2i : (-1125899906842624 : Int) ≤ time := by omega
  have h2d : decide (time < -1125899906842624) = false := decide_eq_false h2
  by_cases h3 : 1125899906842624 < time
  · go_enter Tryd.func6, Tryd.ntmps6
    go_wp2_with fail
    refine (awake26_any (HS.out.of (by (show Ext _ _; repeat first | (with_reducible first | (refine xH ?_; assumption) | exact xR _ | refine xX ?_ _ | refine xA ?_ _) | refine xD ?_ | refine xN ?_ _ | exact xR _)))).mono ?_
    rintro e w6 ⟨rfl, r6, rfl⟩
    go_wp2_with fail
    go_ret
    exact ⟨rfl, by (show Ext _ _; repeat first | (with_reducible first | (refine xH ?_; assumption) | exact xR _ | refine xX ?_ _ | refine xA ?_ _) | refine xD ?_ | refine xN ?_ _ | exact xR _)⟩
  have h3i : time ≤ 1125899906842624 := by omega
  have h3d : decide ((1125899906842624 : Int) < time) = false := decide_eq_false h3
  have HT := hid (show -1125899906842624 ≤ time ∧ time ≤ 1125899906842624 from ⟨h2i, h3i⟩)
  go_enter Tryd.func6, Tryd.ntmps6
  go_wp2_with fail
  refine (start26_any (HS.out.of (by (show Ext _ _; repeat first | (with_reducible first | (refine xH ?_; assumption) | exact xR _ | refine xX ?_ _ | refine xA ?_ _) | refine xD ?_ | refine xN ?_ _ | exact xR _))) time (l := [true, true, true]) (sl_blk blE_len (Blk.new _ _ rfl rfl) (by simp) (by simp)) (by simp)).mono ?_
  rintro e w1 ⟨v1, rfl, he, hv⟩
  have HE_1 := hid (Ext.trans (show Ext w _ by (show Ext _ _; repeat first | (with_reducible first | (refine xH ?_; assumption) | exact xR _ | refine xX ?_ _ | refine xA ?_ _) | refine xD ?_ | refine xN ?_ _ | exact xR _)) he)
  clear he
  obtain ⟨pa, va, fa, la, sa, ta, ba, pn, pc, vn, vc, fn, fc, ln, lc, sn, sc, tn, tc, bn, bc, rfl, hw⟩ := hv
  have HW := hid (WR.imp (P' := fun b => w.heap.size ≤ b) hw (fun b h => by simp at h; omega))
  clear hw
  go_upto_region 6 with fail
  generalize hV_ : World.alloc _ _ = X
  have HE_X := hid (show Ext w1 X by rw [← hV_]; (show Ext _ _; repeat first | (with_reducible first | (refine xH ?_; assumption) | exact xR _ | refine xX ?_ _ | refine xA ?_ _) | refine xD ?_ | refine xN ?_ _ | exact xR _))
  have HB_b1 := hid (show Blk X (w1.heap.size) [.slice pa pn pc, .slice va vn vc, .slice fa fn fc, .slice la ln lc, .map none, .slice sa sn sc, .int .i64 0, .slice ta tn tc, .slice ba bn bc] by rw [← hV_]; (show Blk _ _ _; repeat first | (with_reducible first | (refine xH ?_; assumption) | refine bD ?_ | refine bX ?_ _) | (with_reducible refine bN _ _ rfl ?_; first | with_reducible rfl | (simp; done)) | (with_reducible first | refine bA ?_ _ | assumption | apply bS) | (with_reducible refine bO ?_ ?_; first | omega | (simp; omega)) | (show List.set _ _ _ = _; exact rfl) | (show _ < List.length _; simp; done)))
  clear hV_
  obtain ⟨b1, hg_b1⟩ : ∃ g, g = w1.heap.size := ⟨_, rfl⟩
  simp only [← hg_b1] at HB_b1 ⊢
  have HN_X := hid (show b1 = w1.heap.size ∧ b1 < X.heap.size from ⟨hg_b1, HB_b1.out.1⟩)
  clear hg_b1
  clear h1i h1j h1d h2 h2i h2d h3 h3i h3d
  have HwX := hid (HE_1.out.trans HE_X.out)
  have HNX := hid (show w1.heap.size = b1 ∧ b1 < X.heap.size ∧ w.heap.size ≤ w1.heap.size by have h1 := HN_X.out; have h2 := HE_1.out.size; omega)
  go_wp2_with fail
  go_loopw [37] (fun i_ wr => ∃ (j : Nat), j ≤ qn ∧ i_ = .int .i64 j ∧ ∃ (pa1 va1 fa1 la1 sa1 ta1 ba1 : Option Addr) (pn1 pc1 vn1 vc1 fn1 fc1 ln1 lc1 sn1 sc1 tn1 tc1 bn1 bc1 : Nat) (m : Mc) (ts : List (Tk ckK.C)) (cv : Int), Hid (Blk wr b1 [.slice pa1 pn1 pc1, .slice va1 vn1 vc1, .slice fa1 fn1 fc1, .slice la1 ln1 lc1, .map none, .slice sa1 sn1 sc1, .int .i64 0, .slice ta1 tn1 tc1, .slice ba1 bn1 bc1]) ∧ Hid (WR ckK wr (fun b => (w.heap.size ≤ b ∧ b < w1.heap.size) ∨ X.heap.size ≤ b) (.slice pa1 pn1 pc1) (.slice va1 vn1 vc1) (.slice fa1 fn1 fc1) (.slice la1 ln1 lc1) (.slice sa1 sn1 sc1) (.slice ta1 tn1 tc1) (.slice ba1 bn1 bc1) m ts [false, false, false]) ∧ Hid (GrL [b1] X wr) ∧ Hid (G26 m (cv, 0, 0) j ∧ Inv time cv [true, true, true] ts j ∧ (ts.countP (fun k => k.d) : Int) = cv - time)) (fun i_ _ => qn - (intOf i_).toNat)
  case atStart =>
    refine ⟨0, Nat.zero_le _, rfl, pa, va, fa, la, sa, ta, ba, pn, pc, vn, vc, fn, fc, ln, lc, sn, sc, tn, tc, bn, bc, _, _, time, HB_b1, hid (WR.imp (WR.of HW.out.bnd HE_X.out) (fun b hb => .inl hb)), hid GrL.refl, hid ⟨mc26_good time, Inv.start time [true, true, true] rfl HT.out, ?_⟩⟩
    simp only [tk26_0, List.map_cons, List.map_nil]
    simp
  case round =>
    clear HB_b1 HW
    obtain ⟨j, hjn, rfl, pa1, va1, fa1, la1, sa1, ta1, ba1, pn1, pc1, vn1, vc1, fn1, fc1, ln1, lc1, sn1, sc1, tn1, tc1, bn1, bc1, m, ts, cv, HB, HW, HG, HI⟩ := hrel
    have HJn := hid hjn
    clear hjn
    have HEr := hid (HwX.out.grl HG.out (by have := HNX.out; simp; omega))
    by_cases hjm : j < qn
    · have hjm2 : (j : Int) < (qn : Int) := by omega
      exact absurd hjm (by have h1 := HQ.out; have h2 := HL0.out; rw [h2] at h1; simp at h1; omega)
    · have hjq_ : j = qn := by have := HJn.out; omega
      have hjm2 : ¬ (j : Int) < (qn : Int) := by omega
      have hjm3 : (qn : Int) ≤ (j : Int) := by omega
      clear hjm
      have hts : ts.length = 3 := by rw [HI.out.2.1.len]; rfl
      obtain rfl : tn1 = 3 := by have := HW.out.2.1.len; omega
      obtain ⟨k0_, hk0_⟩ : ∃ x, ts[0]? = some x := ⟨ts[0]'(by omega), List.getElem?_eq_getElem _⟩
      obtain ⟨r0_, tbb, tbo, hta, -, -, -, -⟩ := HW.out.2.1.at hk0_
      subst hta
      clear hk0_ r0_ k0_
      have HTl := hid hts
      clear hts
      have HwU := HEr
      have f0 := (HB.out).2.2 0 _ rfl
      have f1 := (HB.out).2.2 1 _ rfl
      have f2 := (HB.out).2.2 2 _ rfl
      have f3 := (HB.out).2.2 3 _ rfl
      have f4 := (HB.out).2.2 4 _ rfl
      have f5 := (HB.out).2.2 5 _ rfl
      have f6 := (HB.out).2.2 6 _ rfl
      have f7 := (HB.out).2.2 7 _ rfl
      have f8 := (HB.out).2.2 8 _ rfl
      have ff := (HB.out).2.1
      have fg := (HB.out).1
      clear f0 f1 f2 f3 f4 f5 f6 f8 ff
      go_wp2_with fail
      clear f7 fg
      obtain ⟨U, hU⟩ : ∃ U, U = wr := ⟨_, rfl⟩
      have HUe := hid (show Ext U wr by rw [hU]; exact Ext.refl _)
      have HWU := hid (show WR ckK U (fun b => (w.heap.size ≤ b ∧ b < w1.heap.size) ∨ X.heap.size ≤ b) (.slice pa1 pn1 pc1) (.slice va1 vn1 vc1) (.slice fa1 fn1 fc1) (.slice la1 ln1 lc1) (.slice sa1 sn1 sc1) (.slice (some ⟨tbb, tbo, none⟩) 3 tc1) (.slice ba1 bn1 bc1) m ts [false, false, false] by rw [hU]; exact HW.out)
      have HBU := hid (show Blk U b1 [.slice pa1 pn1 pc1, .slice va1 vn1 vc1, .slice fa1 fn1 fc1, .slice la1 ln1 lc1, .map none, .slice sa1 sn1 sc1, .int .i64 0, .slice (some ⟨tbb, tbo, none⟩) 3 tc1, .slice ba1 bn1 bc1] by rw [hU]; exact HB.out)
      have HwU2 := hid (show Ext w U by rw [hU]; exact HwU.out)
      clear hU HW HB HG HwU HEr
      go_loopw [9, 54] (fun f_ i_ wr => ∃ (j2 : Nat), j2 ≤ 3 ∧ i_ = .int .i64 j2 ∧ f_ = .int .i64 ((ts.take j2).countP (fun k => k.d) : Nat) ∧ Hid (Ext U wr)) (fun _ i_ _ => 3 - (intOf i_).toNat)
      case atStart => exact ⟨0, by omega, rfl, rfl, HUe⟩
      case round =>
        clear HUe
        obtain ⟨j2, hj2, rfl, hf_, HE2⟩ := hrel
        obtain ⟨F, hF⟩ : ∃ F, F = (ts.take j2).countP (fun k => k.d) := ⟨_, rfl⟩
        rw [← hF] at hf_
        subst hf_
        have HF := hid hF
        clear hF
        by_cases hjm : j2 < 3
        · have hjm2 : (j2 : Int) < 3 := lt_int hjm
          obtain ⟨k, hk⟩ := get3 HTl.out hjm
          obtain ⟨jq, hjq⟩ : ∃ x, x = j2 + 1 := ⟨_, rfl⟩
          have hwq := wq3 (Nat.lt_trans hjm (by decide)) hjq
          obtain ⟨Fq, hFq⟩ : ∃ x, x = F + 1 := ⟨_, rfl⟩
          have hwf := wq3 (count_ok HF.out hjm) hFq
          have HJm := hid hjm
          have HJq := hid hjq
          have HFq := hid hFq
          have HK := hid hk
          have HW2 := hid (HWU.out.of HE2.out)
          obtain ⟨r, tb, tof, hta, htb, htp, htr, htc⟩ := HW2.out.2.1.at hk
          obtain ⟨rfl, rfl⟩ : tbb = tb ∧ tbo = tof := by simpa using hta
          obtain ⟨cv1, ⟨a0, d⟩, ga, gn, gc⟩ := r
          obtain ⟨hrd, -, hrg⟩ := htr
          dsimp only at hrd hrg htc
          have hgn := hrg.lenN
          cases hrd
          obtain ⟨c0, hc0⟩ : ∃ x, x = cv1 := ⟨_, rfl⟩
          obtain ⟨a', ha'⟩ : ∃ x, x = if k.d = true then a8Z else k.a := ⟨_, rfl⟩
          unfold tkE at htc
          dsimp only at htc
          rw [← ha'] at htc
          obtain ⟨p1, p2, ⟨p3, p4, p5⟩, p6, p7, p8⟩ := a'
          have x0 := htc 0 (by omega)
          have hx1_ := htc 1 (by omega)
          have x2 := htc 2 (by omega)
          have x3 := htc 3 (by omega)
          have x4 := htc 4 (by omega)
          have x5 := htc 5 (by omega)
          have x6 := htc 6 (by omega)
          have x7 := htc 7 (by omega)
          have x8 := htc 8 (by omega)
          have x9 := htc 9 (by omega)
          have x10 := htc 10 (by omega)
          simp [tkL] at x0 hx1_ x2 x3 x4 x5 x6 x7 x8 x9 x10
          clear hc0 c0
          clear hk hjm hjq hFq ha' htc hta htp hrg hgn
          cases hkd : k.d
          · rw [hkd] at hx1_
            simp only [nxV, Bool.false_eq_true, if_false, if_true] at hx1_
            go_upto_region 16 with fail
            generalize hV_ : World.alloc _ _ = U2
            have HE_U2 := hid (show Ext wr U2 by rw [← hV_]; (show Ext _ _; repeat first | (with_reducible first | (refine xH ?_; assumption) | exact xR _ | refine xX ?_ _ | refine xA ?_ _) | refine xD ?_ | refine xN ?_ _ | exact xR _))
            have HB_b11 := hid (show Blk U2 (wr.heap.size) [.iface ckT cv1, .func (.method "Next") #[.iface ckT cv1] #[], .int .i64 p1, .int .i64 p2, .int .i64 p3, .int .u32 p4, .int .u32 p5, .int .i64 p6, .int .u32 p7, .int .u32 p8, .slice ga gn gc] by rw [← hV_]; (show Blk _ _ _; repeat first | (with_reducible first | (refine xH ?_; assumption) | refine bD ?_ | refine bX ?_ _) | (with_reducible refine bN _ _ rfl ?_; first | with_reducible rfl | (simp; done)) | (with_reducible first | refine bA ?_ _ | assumption | apply bS) | (with_reducible refine bO ?_ ?_; first | omega | (simp; omega)) | (show List.set _ _ _ = _; exact rfl) | (show _ < List.length _; simp; done)))
            clear hV_
            obtain ⟨b11, hg_b11⟩ : ∃ g, g = wr.heap.size := ⟨_, rfl⟩
            simp only [← hg_b11] at HB_b11 ⊢
            have HN_U2 := hid (show b11 = wr.heap.size ∧ b11 < U2.heap.size from ⟨hg_b11, HB_b11.out.1⟩)
            clear hg_b11
            clear x0 hx1_ x2 x3 x4 x5 x6 x7 x8 x9 x10 htb
            obtain ⟨x0, x1, x2, x3, x4, x5, x6, x7, x8, x9, x10⟩ := Blk.at11 HB_b11.out
            have xg := HB_b11.out.1
            go_wp2_with fail
            refine (tdone_any (.iface ckT cv1) (.func (.method "Next") #[.iface ckT cv1] #[]) false (.inr ⟨rfl, _, _, _, rfl⟩) ⟨p1, p2, (p3, p4, p5), (p6, p7, p8)⟩ ga gn gc U2).mono ?_
            rintro e w5 ⟨rfl, r5, rfl⟩
            clear x0 x1 x2 x3 x4 x5 x6 x7 x8 x9 x10 xg
            go_wp2_with fail
            go_roundw
            case rel => exact ⟨jq, le_next HJm.out HJq.out, by first | exact slot_next HJq.out | exact slot_next' hwq | rfl, by
                have e1 := count_up HF.out HK.out HJq.out HFq.out false hkd
                simp only [Bool.false_eq_true, if_false, if_true] at e1
                rw [e1], hid ((HE2.out.trans HE_U2.out).ext r5)⟩
            case measure => first | exact meas_next2 HJm.out HJq.out | exact meas_next3 hwq HJm.out HJq.out | exact meas_next HJm.out HJq.out
          · rw [hkd] at hx1_
            simp only [nxV, Bool.false_eq_true, if_false, if_true] at hx1_
            go_upto_region 16 with fail
            generalize hV_ : World.alloc _ _ = U2
            have HE_U2 := hid (show Ext wr U2 by rw [← hV_]; (show Ext _ _; repeat first | (with_reducible first | (refine xH ?_; assumption) | exact xR _ | refine xX ?_ _ | refine xA ?_ _) | refine xD ?_ | refine xN ?_ _ | exact xR _))
            have HB_b11 := hid (show Blk U2 (wr.heap.size) [.iface ckT cv1, .nilFunc, .int .i64 p1, .int .i64 p2, .int .i64 p3, .int .u32 p4, .int .u32 p5, .int .i64 p6, .int .u32 p7, .int .u32 p8, .slice ga gn gc] by rw [← hV_]; (show Blk _ _ _; repeat first | (with_reducible first | (refine xH ?_; assumption) | refine bD ?_ | refine bX ?_ _) | (with_reducible refine bN _ _ rfl ?_; first | with_reducible rfl | (simp; done)) | (with_reducible first | refine bA ?_ _ | assumption | apply bS) | (with_reducible refine bO ?_ ?_; first | omega | (simp; omega)) | (show List.set _ _ _ = _; exact rfl) | (show _ < List.length _; simp; done)))
            clear hV_
            obtain ⟨b11, hg_b11⟩ : ∃ g, g = wr.heap.size := ⟨_, rfl⟩
            simp only [← hg_b11] at HB_b11 ⊢
            have HN_U2 := hid (show b11 = wr.heap.size ∧ b11 < U2.heap.size from ⟨hg_b11, HB_b11.out.1⟩)
            clear hg_b11
            clear x0 hx1_ x2 x3 x4 x5 x6 x7 x8 x9 x10 htb
            obtain ⟨x0, x1, x2, x3, x4, x5, x6, x7, x8, x9, x10⟩ := Blk.at11 HB_b11.out
            have xg := HB_b11.out.1
            go_wp2_with fail
            refine (tdone_any (.iface ckT cv1) (.nilFunc) true (.inl ⟨rfl, rfl⟩) ⟨p1, p2, (p3, p4, p5), (p6, p7, p8)⟩ ga gn gc U2).mono ?_
            rintro e w5 ⟨rfl, r5, rfl⟩
            clear x0 x1 x2 x3 x4 x5 x6 x7 x8 x9 x10 xg
            go_wp2_with fail
            go_roundw
            case rel => exact ⟨jq, le_next HJm.out HJq.out, by first | exact slot_next HJq.out | exact slot_next' hwq | rfl, by
                have e1 := count_up HF.out HK.out HJq.out HFq.out true hkd
                simp only [Bool.false_eq_true, if_false, if_true] at e1
                rw [e1]; first | exact slot_next HFq.out | exact slot_next' hwf | rw [hwf], hid ((HE2.out.trans HE_U2.out).ext r5)⟩
            case measure => first | exact meas_next2 HJm.out HJq.out | exact meas_next3 hwq HJm.out HJq.out | exact meas_next HJm.out HJq.out
        · have hj3 : j2 = 3 := eq3 hj2 hjm
          subst hj3
          have hF3 : (F : Int) = cv - time := count_all HF.out HTl.out HI.out.2.2
          have HF3 := hid hF3
          have HE3 := HE2
          have h5 := HBU.out.of HE2.out
          have f0 := (h5).2.2 0 _ rfl
          have f1 := (h5).2.2 1 _ rfl
          have f2 := (h5).2.2 2 _ rfl
          have f3 := (h5).2.2 3 _ rfl
          have f4 := (h5).2.2 4 _ rfl
          have f5 := (h5).2.2 5 _ rfl
          have f6 := (h5).2.2 6 _ rfl
          have f7 := (h5).2.2 7 _ rfl
          have f8 := (h5).2.2 8 _ rfl
          have ff := (h5).2.1
          have fg := (h5).1
          clear h5 f0 f1 f2 f3 f4 f5 f6 f8 ff hjm hF3
          go_wp2_with fail
          clear f7 fg
          have HE3 := hid HE2.out
          clear HE2
          obtain ⟨U3, hU3⟩ : ∃ U, U = wr := ⟨_, rfl⟩
          have HUe := hid (show Ext U3 wr by rw [hU3]; exact Ext.refl _)
          have HUU := hid (show Ext U U3 by rw [hU3]; exact HE3.out)
          clear hU3 HE3
          go_loopw [66] (fun i_ wr => ∃ (j2 : Nat), j2 ≤ 3 ∧ i_ = .int .i64 j2 ∧ Hid (Ext U3 wr)) (fun i_ _ => 3 - (intOf i_).toNat)
          case atStart => exact ⟨0, by omega, rfl, HUe⟩
          case round =>
            clear HUe
            obtain ⟨j2, hj2, rfl, HE2⟩ := hrel
            by_cases hjm : j2 < 3
            · have hjm2 : (j2 : Int) < 3 := lt_int hjm
              obtain ⟨k, hk⟩ := get3 HTl.out hjm
              obtain ⟨jq, hjq⟩ : ∃ x, x = j2 + 1 := ⟨_, rfl⟩
              have hwq := wq3 (Nat.lt_trans hjm (by decide)) hjq
              have HJm := hid hjm
              have HJq := hid hjq
              have HW2 := hid (HWU.out.of (HUU.out.trans HE2.out))
              obtain ⟨r, tb, tof, hta, htb, htp, htr, htc⟩ := HW2.out.2.1.at hk
              obtain ⟨rfl, rfl⟩ : tbb = tb ∧ tbo = tof := by simpa using hta
              obtain ⟨cv1, ⟨a0, d⟩, ga, gn, gc⟩ := r
              obtain ⟨hrd, -, hrg⟩ := htr
              dsimp only at hrd hrg htc
              have hgn := hrg.lenN
              cases hrd
              obtain ⟨c0, hc0⟩ : ∃ x, x = cv1 := ⟨_, rfl⟩
              obtain ⟨a', ha'⟩ : ∃ x, x = if k.d = true then a8Z else k.a := ⟨_, rfl⟩
              unfold tkE at htc
              dsimp only at htc
              rw [← ha'] at htc
              obtain ⟨p1, p2, ⟨p3, p4, p5⟩, p6, p7, p8⟩ := a'
              have x0 := htc 0 (by omega)
              have hx1_ := htc 1 (by omega)
              have x2 := htc 2 (by omega)
              have x3 := htc 3 (by omega)
              have x4 := htc 4 (by omega)
              have x5 := htc 5 (by omega)
              have x6 := htc 6 (by omega)
              have x7 := htc 7 (by omega)
              have x8 := htc 8 (by omega)
              have x9 := htc 9 (by omega)
              have x10 := htc 10 (by omega)
              simp [tkL] at x0 hx1_ x2 x3 x4 x5 x6 x7 x8 x9 x10
              clear hc0 c0
              have hti : TI time cv true k := HI.out.2.1.all j2 k true hk (ttt_at hjm)
              have hgs := hti.steps HI.out.2.1.cv.1
              rw [← hgn] at hgs
              obtain ⟨G1, H1, H2, hwg, hwh, hwi, hc1, hc1b, hc2, hc2b⟩ := steps_ok HF3.out hgs HI.out.2.1.cv.2 HJn.out HQ2.out
              clear hk hjm hjq ha' htc hta htp hrg hgn hti hgs
              cases hkd : k.d
              · rw [hkd] at hx1_
                simp only [nxV, Bool.false_eq_true, if_false, if_true] at hx1_
                go_upto_region 22 with fail
                generalize hV_ : World.alloc _ _ = U2
                have HE_U2 := hid (show Ext wr U2 by rw [← hV_]; (show Ext _ _; repeat first | (with_reducible first | (refine xH ?_; assumption) | exact xR _ | refine xX ?_ _ | refine xA ?_ _) | refine xD ?_ | refine xN ?_ _ | exact xR _))
                have HB_b13 := hid (show Blk U2 (wr.heap.size) [.iface ckT cv1, .func (.method "Next") #[.iface ckT cv1] #[], .int .i64 p1, .int .i64 p2, .int .i64 p3, .int .u32 p4, .int .u32 p5, .int .i64 p6, .int .u32 p7, .int .u32 p8, .slice ga gn gc] by rw [← hV_]; (show Blk _ _ _; repeat first | (with_reducible first | (refine xH ?_; assumption) | refine bD ?_ | refine bX ?_ _) | (with_reducible refine bN _ _ rfl ?_; first | with_reducible rfl | (simp; done)) | (with_reducible first | refine bA ?_ _ | assumption | apply bS) | (with_reducible refine bO ?_ ?_; first | omega | (simp; omega)) | (show List.set _ _ _ = _; exact rfl) | (show _ < List.length _; simp; done)))
                clear hV_
                obtain ⟨b13, hg_b13⟩ : ∃ g, g = wr.heap.size := ⟨_, rfl⟩
                simp only [← hg_b13] at HB_b13 ⊢
                have HN_U2 := hid (show b13 = wr.heap.size ∧ b13 < U2.heap.size from ⟨hg_b13, HB_b13.out.1⟩)
                clear hg_b13
                clear x0 hx1_ x2 x3 x4 x5 x6 x7 x8 x9 x10 htb
                obtain ⟨x0, x1, x2, x3, x4, x5, x6, x7, x8, x9, x10⟩ := Blk.at11 HB_b13.out
                have xg := HB_b13.out.1
                go_wp2_with fail
                refine (tdone_any (.iface ckT cv1) (.func (.method "Next") #[.iface ckT cv1] #[]) false (.inr ⟨rfl, _, _, _, rfl⟩) ⟨p1, p2, (p3, p4, p5), (p6, p7, p8)⟩ ga gn gc U2).mono ?_
                rintro e w5 ⟨rfl, r5, rfl⟩
                clear x0 x1 x2 x3 x4 x5 x6 x7 x8 x9 x10 xg
                obtain ⟨x0, x1, x2, x3, x4, x5, x6, x7, x8, x9, x10⟩ := Blk.at11 (HB_b13.out.ext r5)
                have xg := (HB_b13.out.ext r5).1
                go_wp2_with fail
                refine (tsteps_any (.iface ckT cv1) (.func (.method "Next") #[.iface ckT cv1] #[]) ⟨p1, p2, (p3, p4, p5), (p6, p7, p8)⟩ ga gn gc _).mono ?_
                rintro e w6 ⟨rfl, r6, rfl⟩
                clear x0 x1 x2 x3 x4 x5 x6 x7 x8 x9 x10 xg
                go_wp2_with fail
                go_roundw
                case rel => exact ⟨jq, le_next HJm.out HJq.out, by first | exact slot_next HJq.out | exact slot_next' hwq | rfl, hid (((HE2.out.trans HE_U2.out).ext r5).ext r6)⟩
                case measure => first | exact meas_next2 HJm.out HJq.out | exact meas_next3 hwq HJm.out HJq.out | exact meas_next HJm.out HJq.out
              · rw [hkd] at hx1_
                simp only [nxV, Bool.false_eq_true, if_false, if_true] at hx1_
                go_upto_region 22 with fail
                generalize hV_ : World.alloc _ _ = U2
                have HE_U2 := hid (show Ext wr U2 by rw [← hV_]; (show Ext _ _; repeat first | (with_reducible first | (refine xH ?_; assumption) | exact xR _ | refine xX ?_ _ | refine xA ?_ _) | refine xD ?_ | refine xN ?_ _ | exact xR _))
                have HB_b13 := hid (show Blk U2 (wr.heap.size) [.iface ckT cv1, .nilFunc, .int .i64 p1, .int .i64 p2, .int .i64 p3, .int .u32 p4, .int .u32 p5, .int .i64 p6, .int .u32 p7, .int .u32 p8, .slice ga gn gc] by rw [← hV_]; (show Blk _ _ _; repeat first | (with_reducible first | (refine xH ?_; assumption) | refine bD ?_ | refine bX ?_ _) | (with_reducible refine bN _ _ rfl ?_; first | with_reducible rfl | (simp; done)) | (with_reducible first | refine bA ?_ _ | assumption | apply bS) | (with_reducible refine bO ?_ ?_; first | omega | (simp; omega)) | (show List.set _ _ _ = _; exact rfl) | (show _ < List.length _; simp; done)))
                clear hV_
                obtain ⟨b13, hg_b13⟩ : ∃ g, g = wr.heap.size := ⟨_, rfl⟩
                simp only [← hg_b13] at HB_b13 ⊢
                have HN_U2 := hid (show b13 = wr.heap.size ∧ b13 < U2.heap.size from ⟨hg_b13, HB_b13.out.1⟩)
                clear hg_b13
                clear x0 hx1_ x2 x3 x4 x5 x6 x7 x8 x9 x10 htb
                obtain ⟨x0, x1, x2, x3, x4, x5, x6, x7, x8, x9, x10⟩ := Blk.at11 HB_b13.out
                have xg := HB_b13.out.1
                go_wp2_with fail
                refine (tdone_any (.iface ckT cv1) (.nilFunc) true (.inl ⟨rfl, rfl⟩) ⟨p1, p2, (p3, p4, p5), (p6, p7, p8)⟩ ga gn gc U2).mono ?_
                rintro e w5 ⟨rfl, r5, rfl⟩
                clear x0 x1 x2 x3 x4 x5 x6 x7 x8 x9 x10 xg
                obtain ⟨x0, x1, x2, x3, x4, x5, x6, x7, x8, x9, x10⟩ := Blk.at11 (HB_b13.out.ext r5)
                have xg := (HB_b13.out.ext r5).1
                go_wp2_with fail
                refine (tsteps_any (.iface ckT cv1) (.nilFunc) ⟨p1, p2, (p3, p4, p5), (p6, p7, p8)⟩ ga gn gc _).mono ?_
                rintro e w6 ⟨rfl, r6, rfl⟩
                clear x0 x1 x2 x3 x4 x5 x6 x7 x8 x9 x10 xg
                go_wp2_with fail
                go_roundw
                case rel => exact ⟨jq, le_next HJm.out HJq.out, by first | exact slot_next HJq.out | exact slot_next' hwq | rfl, hid (((HE2.out.trans HE_U2.out).ext r5).ext r6)⟩
                case measure => first | exact meas_next2 HJm.out HJq.out | exact meas_next3 hwq HJm.out HJq.out | exact meas_next HJm.out HJq.out
            · have hj3 : j2 = 3 := eq3 hj2 hjm
              subst hj3
              have hee := (HUU.out.trans HE2.out)
              have HEE := hid hee
              clear hee hjm
              go_wp2_with fail
              refine (awake26_any (HS.out.of (HwU2.out.trans HEE.out))).mono ?_
              rintro e w9 ⟨rfl, he9⟩
              have h5 := HBU.out.of (HEE.out.trans he9)
              have HE9 := hid ((HwU2.out.trans HEE.out).trans he9)
              clear he9
              have f0 := (h5).2.2 0 _ rfl
              have f1 := (h5).2.2 1 _ rfl
              have f2 := (h5).2.2 2 _ rfl
              have f3 := (h5).2.2 3 _ rfl
              have f4 := (h5).2.2 4 _ rfl
              have f5 := (h5).2.2 5 _ rfl
              have f6 := (h5).2.2 6 _ rfl
              have f7 := (h5).2.2 7 _ rfl
              have f8 := (h5).2.2 8 _ rfl
              have ff := (h5).2.1
              have fg := (h5).1
              clear h5 f0 f1 f2 f3 f4 f5 f6 f8 ff
              go_wp2_with fail
              go_ret
              exact ⟨rfl, HE9.out⟩

theorem clretries_any (time : Int) {v : Value} {l : List Pk} {w : World} (hs : Szs w) (hl : Sl w 3 pkE v l) : Calls Tryd.prog 6 #[.int .i64 time, v] w fun e w' => e = .returned (.bool true) ∧ Ext w w' := by
  obtain ⟨a, c, rfl, hm, hq⟩ := id hl
  by_cases hln : l = []
  · exact clretries_none time hs hl hln
  · obtain ⟨b', o', rfl, _⟩ := hq hln
    exact clretries_some time b' o' hs hl

end Go.Proofs.YtaaammenbfinmaaDoor
