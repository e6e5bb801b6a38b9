/- Walk of the recovery code's Next. -/
import Derived.Test.YtdpbcfjfnclpiaaDoorPk23
import Derived.Test.YtdpbcfjfnclpiaaDoorPk24
import Derived.Deep.DeepCutAuto
import Derived.Deep.LoopGhost
namespace Go.Proofs.YtdpbcfjfnclpiaaDoor
set_option linter.unusedSimpArgs false
set_option linter.unusedVariables false
open Go.RowKit
theorem fd_append {ops : Array Oper} {rest : List Oper} {o : Oper} {a : Act} {Q : Exit → Act → World → Prop} {w : World} {base : Nat} {v : Value} {l : List (Nat × Wd)} (hgd : o.guard = none)
 (s x : Operand) (ho : o.op = .call { callee := .builtin .append, args := #[s, x], argTypes := #[79, 79] })
 (W : World) (hW : Ext W w) (hWb : W.heap.size ≤ base) (hbw : base ≤ w.heap.size) (hs : a.eval s = v) (hown : Own w base 147 4 fdE v l)
 (ad : Addr) (m c : Nat) (hx : a.eval x = .slice (some ad) m c) (news : List (Nat × Wd)) (hm : news.length = m)
 (hnews : ∀ (j : Nat) (u : Value), (news.flatMap fdE)[j]? = some u → w.cell? (ad.add j) = some u)
 (hlen : l.length + m ≤ 1000000)
 (h : ∀ v' r, Own (ext W r) base 147 4 fdE v' (l ++ news) → wpList Tryd.prog ops Q rest (a.put o.dst v') (ext W r)) : wpList Tryd.prog ops Q (o :: rest) a w := by
 obtain ⟨i0, hi, hz0, hz1, hz2⟩ := info_parts Tryd.infoFound
 exact own_append Tryd.underlying79 hi hz0 hz1 hz2 rfl (by decide) fdE_len fdE_one hgd s x ho W hW hWb hbw hs hown ad m c hx news hm hnews (by unfold maxLen; omega) (by omega) h
set_option maxHeartbeats 1000000 in
theorem clone_fd (l : List (Nat × Wd)) (v : Value) (w : World) (hl : l.length ≤ 100000) (hv : Sl w 4 fdE v l) :
 Calls Tryd.prog 96 #[v] w fun y w' => ∃ v', y = .returned v' ∧ (∃ r, w' = ext w r) ∧ Own w' w.heap.size 147 4 fdE v' l := by
 have HV := hid hv
 obtain ⟨a, c, rfl, ⟨hm, hlc⟩, hr⟩ := hv
 have hnil := fun (w : World) (a : Option Addr) (n c : Nat) => Lib.run_eql_slice_nil (P := Tryd.prog) w 79 147 a n c 0 0 Tryd.underlying79
 cases a with
 | none =>
  have hl0 : l = [] := by
   cases l with
   | nil => rfl
   | cons x r => obtain ⟨b, o, h, _⟩ := hr (by simp); cases h
  clear hr HV
  go_enter Tryd.func96, Tryd.ntmps96
  go_wp2_with fail
  go_ret
  exact ⟨_, rfl, by (show Ext _ _; repeat first | (with_reducible first | (refine xH ?_; assumption) | exact xR _ | refine xX ?_ _ | refine xA ?_ _) | refine xD ?_ | refine xN ?_ _ | exact xR _), by rw [hl0]; exact Own.nil⟩
 | some ad =>
  have HF := hid (Sl.flat fdE_len (by omega) HV.out)
  have HN := hid (show ([] : List (Nat × Wd)) ++ l = l from rfl)
  have hb : w.heap.size ≤ (w.alloc (.cells #[] 147)).heap.size := by simp
  clear hr HV
  go_enter Tryd.func96, Tryd.ntmps96
  go_wp2_with (at_builtin; refine fd_append rfl _ _ rfl w (by (show Ext _ _; repeat first | (with_reducible first | (refine xH ?_; assumption) | exact xR _ | refine xX ?_ _ | refine xA ?_ _) | refine xD ?_ | refine xN ?_ _ | exact xR _)) (Nat.le_refl _) (by (first | exact Nat.le_refl _ | (simp; done) | (simp; omega))) rfl (Own.made #[] [] 0 rfl (Nat.le_refl _) (by unfold maxLen; omega) rfl rfl) ad l.length c rfl l rfl (fun j u hu => Ext.cell (Ext.of_alloc _ _) (HF.out j u hu)) (by simp; omega) ?_; rintro v' r' hv')
  go_ret
  exact ⟨_, rfl, by (show Ext _ _; repeat first | (with_reducible first | (refine xH ?_; assumption) | exact xR _ | refine xX ?_ _ | refine xA ?_ _) | refine xD ?_ | refine xN ?_ _ | exact xR _), hv'⟩
structure Cv (t c b : Int) (w : World) (v : Value) (s : CS) (P : Nat → Prop) (pa sa ta la aa ra fa : Option Addr) (pc sc tc lc ac rc fc : Nat) : Prop where
 val : v = .agg (cdL t c b pa sa ta la aa ra fa pc sc tc lc ac rc fc s).toArray
 pl : Sq w P 1 locE (.slice pa s.pl.length pc) s.pl
 sl : Sq w P 1 locE (.slice sa s.sl.length sc) s.sl
 th : Sq w P 1 locE (.slice ta s.th.length tc) s.th
 loads : Sq w P 1 locE (.slice la s.loads.length lc) s.loads
 acts : Sq w P 8 acE (.slice aa s.acts.length ac) s.acts
 stored : Sq w P 1 locE (.slice ra s.stored.length rc) s.stored
 loaded : Sq w P 4 fdE (.slice fa s.loaded.length fc) s.loaded
 tight : s.part = 1 ∨ s.part = 2 → lc = s.loads.length
def Cw (t c b : Int) (w : World) (v : Value) (s : CS) (P : Nat → Prop) : Prop := ∃ pa sa ta la aa ra fa pc sc tc lc ac rc fc, Cv t c b w v s P pa sa ta la aa ra fa pc sc tc lc ac rc fc
theorem Cd.loads8' [LoC] {t c b : Int} {w : World} {g : Nat} {s : CS} {pa sa ta la aa ra fa : Option Addr} {pc sc tc lc ac rc fc : Nat} (h : Cd t c b w g s pa sa ta la aa ra fa pc sc tc lc ac rc fc) {l' : List Nat} {a' fa' : Option Addr} {n m c' fc' : Nat} {ld' : List (Nat × Wd)} (hn : n = l'.length) (hm : m = ld'.length)
 (hsn : Sn w g 1 locE (.slice a' n c') l') (hfd : Sn w g 4 fdE (.slice fa' m fc') ld') (ht : s.part = 1 ∨ s.part = 2 → c' = l'.length) :
 Cd t c b (((w.setCell ⟨g, 11, none⟩ (.slice fa' m fc')).setCell ⟨g, 8, none⟩ (.slice a' n c')).setCell ⟨g, 12, none⟩ (.bool false)) g { s with loaded := ld', loads := l', loading := false } pa sa ta a' aa ra fa' pc sc tc c' ac rc fc' := by
 subst hn hm
 have hg : Grn g w (((w.setCell ⟨g, 11, none⟩ (.slice fa' ld'.length fc')).setCell ⟨g, 8, none⟩ (.slice a' l'.length c')).setCell ⟨g, 12, none⟩ (.bool false)) := ((Grn.refl.setCell _ _).setCell _ _).setCell _ _
 exact ⟨((h.blk.set 11 (by simp) _).set 8 (by simp) _).set 12 (by simp) _, h.pl.grn locE_len hg, h.sl.grn locE_len hg, h.th.grn locE_len hg, hsn.grn locE_len hg, h.acts.grn acE_len hg, h.stored.grn locE_len hg, hfd.grn fdE_len hg, ht, Nat.le_trans h.big hg.size⟩
theorem Sn.sl2 [LoC] {α : Type} {size : Nat} {enc : α → List Value} (henc : ∀ x, (enc x).length = size) {w w' : World} {g : Nat} {v : Value} {l : List α} (h : Sn w g size enc v l) (k : Grn (g + 1 + 1) w w') : Sq w' (fun b => LoC.P b ∨ g ≤ b) size enc v l := by
 refine ⟨?_, fun hne a n c he => (h.2 hne a n c he).imp (fun h => h.2) (fun h => by omega)⟩
 by_cases hl : l = []
 ·subst hl; obtain ⟨a, c, hv, hm, _⟩ := h.1; exact ⟨a, c, hv, hm, fun hne => absurd rfl hne⟩
 ·exact Sl.grnV henc h.1 k (fun a n c he => by have := h.2 hl a n c he; omega)
theorem Cd.cv2 [LoC] {t c b : Int} {w w' : World} {g : Nat} {s : CS} {pa sa ta la aa ra fa : Option Addr} {pc sc tc lc ac rc fc : Nat} (h : Cd t c b w g s pa sa ta la aa ra fa pc sc tc lc ac rc fc) (k : Grn (g + 1 + 1) w w') : Cw t c b w' (.agg (cdL t c b pa sa ta la aa ra fa pc sc tc lc ac rc fc s).toArray) s (fun b => LoC.P b ∨ g ≤ b) :=
 ⟨pa, sa, ta, la, aa, ra, fa, pc, sc, tc, lc, ac, rc, fc, rfl, h.pl.sl2 locE_len k, h.sl.sl2 locE_len k, h.th.sl2 locE_len k, h.loads.sl2 locE_len k, h.acts.sl2 acE_len k, h.stored.sl2 locE_len k, h.loaded.sl2 fdE_len k, h.tight⟩
theorem Sn.atail1 [LoC] {g : Nat} {w : World} {a : Addr} {n c : Nat} {x : Ac} {r : List Ac} (h : Sn w g 8 acE (.slice (some a) (n + 1) c) (x :: r)) (hc : c = 1) : Sn w g 8 acE (.slice (some a) n 0) r := by
 subst hc
 have hr := h.1.room
 rw [List.length_cons] at hr
 have h0 : r = [] := List.eq_nil_of_length_eq_zero (by omega)
 have hn : n = 0 := by rw [h0] at hr; simp at hr; omega
 subst h0 hn
 exact ⟨⟨some a, 0, rfl, ⟨by simp, by simp⟩, fun hne => absurd rfl hne⟩, fun hne => absurd rfl hne⟩
theorem Sn.atail2 [LoC] {g : Nat} {w : World} {b o n c : Nat} {x : Ac} {r : List Ac} (h : Sn w g 8 acE (.slice (some ⟨b, o, none⟩) (n + 1) c) (x :: r)) (hc : ¬ c = 1) : Sn w g 8 acE (.slice (some ⟨b, o + 8, none⟩) n (c - 1)) r := by
 have h1 := Sl.dropB h.1 1 (by simp) hc
 simp only [Nat.one_mul, Nat.add_sub_cancel, List.drop_succ_cons, List.drop_zero] at h1
 exact ⟨h1, fun _ a' n' c' he => by
  simp only [Value.slice.injEq, Option.some.injEq] at he
  have := h.2 (by simp) ⟨b, o, none⟩ _ _ rfl
  rw [← he.1]; exact this⟩
theorem cFin_step (K : RK) (s : CS) (p : Nat) (rest : List Nat) : (cFin K s p rest).step = s.step := by unfold cFin; split <;> rfl
theorem cPhase_step (K : RK) (s : CS) : (cPhase K s).1.step = s.step := by
 unfold cPhase
 split
 ·unfold cPlain
  repeat' split
  all_goals first | rfl | exact cFin_step K _ _ _
 ·split
  ·unfold cSettle
   repeat' split
   all_goals first | rfl
  ·split
   ·unfold cQuiet
    repeat' split
    all_goals first | rfl
   ·rfl
theorem phs_get {w : World} {q : Nat} (h : Blk w q [.func (.func (phF 0)) #[] #[], .func (.func (phF 1)) #[] #[], .func (.func (phF 2)) #[] #[], .func (.func (phF 3)) #[] #[], .func (.func (phF 4)) #[] #[]]) {k : Nat} (hk : k < 5) : w.cell? ⟨q, k, none⟩ = some (.func (.func (phF k)) #[] #[]) := by
 refine h.2.2 k _ ?_
 match k, hk with
 | 0, _ => rfl
 | 1, _ => rfl
 | 2, _ => rfl
 | 3, _ => rfl
 | 4, _ => rfl
theorem Cd.load12 [LoC] {t c b : Int} {w : World} {g : Nat} {s : CS} {pa sa ta la aa ra fa : Option Addr} {pc sc tc lc ac rc fc : Nat} (h : Cd t c b w g s pa sa ta la aa ra fa pc sc tc lc ac rc fc) (v : Bool) :
 Cd t c b (w.setCell ⟨g, 12, none⟩ (.bool v)) g { s with loading := v } pa sa ta la aa ra fa pc sc tc lc ac rc fc := by
 have hg : Grn g w (w.setCell ⟨g, 12, none⟩ (.bool v)) := Grn.refl.setCell _ _
 exact ⟨h.blk.set 12 (by simp) _, h.pl.grn locE_len hg, h.sl.grn locE_len hg, h.th.grn locE_len hg, h.loads.grn locE_len hg, h.acts.grn acE_len hg, h.stored.grn locE_len hg, h.loaded.grn fdE_len hg, h.tight, Nat.le_trans h.big hg.size⟩
theorem Cd.end13 [LoC] {t c b : Int} {w : World} {g : Nat} {s : CS} {pa sa ta la aa ra fa : Option Addr} {pc sc tc lc ac rc fc : Nat} (h : Cd t c b w g s pa sa ta la aa ra fa pc sc tc lc ac rc fc) (v : Bool) :
 Cd t c b (w.setCell ⟨g, 13, none⟩ (.bool v)) g { s with ended := v } pa sa ta la aa ra fa pc sc tc lc ac rc fc := by
 have hg : Grn g w (w.setCell ⟨g, 13, none⟩ (.bool v)) := Grn.refl.setCell _ _
 exact ⟨h.blk.set 13 (by simp) _, h.pl.grn locE_len hg, h.sl.grn locE_len hg, h.th.grn locE_len hg, h.loads.grn locE_len hg, h.acts.grn acE_len hg, h.stored.grn locE_len hg, h.loaded.grn fdE_len hg, h.tight, Nat.le_trans h.big hg.size⟩
theorem Cd.step6 [LoC] {t c b : Int} {w : World} {g : Nat} {s : CS} {pa sa ta la aa ra fa : Option Addr} {pc sc tc lc ac rc fc : Nat} (h : Cd t c b w g s pa sa ta la aa ra fa pc sc tc lc ac rc fc) (v : Nat) :
 Cd t c b (w.setCell ⟨g, 6, none⟩ (.int .i64 v)) g { s with step := v } pa sa ta la aa ra fa pc sc tc lc ac rc fc := by
 have hg : Grn g w (w.setCell ⟨g, 6, none⟩ (.int .i64 v)) := Grn.refl.setCell _ _
 exact ⟨h.blk.set 6 (by simp) _, h.pl.grn locE_len hg, h.sl.grn locE_len hg, h.th.grn locE_len hg, h.loads.grn locE_len hg, h.acts.grn acE_len hg, h.stored.grn locE_len hg, h.loaded.grn fdE_len hg, h.tight, Nat.le_trans h.big hg.size⟩
theorem st8 {w : World} {b : Nat} {v0 v1 v2 v3 v4 v5 v6 v7 : Value} (h : Blk w b [v0, v1, v2, v3, v4, v5, v6, v7]) (x0 x1 x2 x3 x4 x5 x6 x7 : Value) :
 Blk ((((((((w.setCell ⟨b, 0, none⟩ x0).setCell ⟨b, 1, none⟩ x1).setCell ⟨b, 2, none⟩ x2).setCell ⟨b, 3, none⟩ x3).setCell ⟨b, 4, none⟩ x4).setCell ⟨b, 5, none⟩ x5).setCell ⟨b, 6, none⟩ x6).setCell ⟨b, 7, none⟩ x7) b [x0, x1, x2, x3, x4, x5, x6, x7] ∧
 Grn b w ((((((((w.setCell ⟨b, 0, none⟩ x0).setCell ⟨b, 1, none⟩ x1).setCell ⟨b, 2, none⟩ x2).setCell ⟨b, 3, none⟩ x3).setCell ⟨b, 4, none⟩ x4).setCell ⟨b, 5, none⟩ x5).setCell ⟨b, 6, none⟩ x6).setCell ⟨b, 7, none⟩ x7) :=
 ⟨(((((((h.set 0 (by simp) _).set 1 (by simp) _).set 2 (by simp) _).set 3 (by simp) _).set 4 (by simp) _).set 5 (by simp) _).set 6 (by simp) _).set 7 (by simp) _,
   (((((((Grn.refl.setCell _ _).setCell _ _).setCell _ _).setCell _ _).setCell _ _).setCell _ _).setCell _ _).setCell _ _⟩
set_option maxRecDepth 100000 in
set_option maxHeartbeats 2000000 in
theorem cnext_any [LoC] (K : RK) {t c b : Int} {sz : Nat} (hKA : KAt K t c b sz) {w : World} (hs : Szs w) (s : CS) (cv : Value) (hcv : Cw t c b w cv s (fun b => LoC.P b)) (x y z : Int) (ok : Bool)
 (hld : s.loading = true → ∃ p r, s.loads = p :: r) (hlen : s.loaded.length ≤ 50000) (hI : CInv sz (cTake s (x, y, z))) (n : Nat) (c' : CS) (a : Ac) (d : Bool) (hsp : Spin K n (cTake s (x, y, z)) c' a d) :
 Calls Tryd.prog 95 #[cv, .agg #[.int .i64 x, .int .u32 y, .int .u32 z, .bool ok]] w
  fun e w' => ∃ cv', e = .returned (.tuple #[.iface 81 cv', .agg (acE a).toArray, .bool d]) ∧ Cw t c b w' cv' c' (fun b => LoC.P b ∨ w.heap.size ≤ b) ∧ ∃ r, w' = ext w r := by
 have HS := hid hs
 have HK := hid hKA
 have HLd := hid hld
 have HIv := hid hI
 have HSp := hid hsp
 obtain ⟨pa, sa, ta, la, aa, ra, fa, pc, sc, tc, lc, ac, rc, fc, hcv⟩ := hcv
 have HC := hid hcv
 obtain ⟨rfl, _, _, _, _, _, _, _, _⟩ := hcv
 clear hs hKA hld hI hsp
 go_enter Tryd.func95, Tryd.ntmps95
 go_upto_region 1 with fail
 generalize hU : World.alloc (World.alloc _ _) _ = U
 have HEU := hid (show Ext w U by rw [← hU]; (show Ext _ _; repeat first | (with_reducible first | (refine xH ?_; assumption) | exact xR _ | refine xX ?_ _ | refine xA ?_ _) | refine xD ?_ | refine xN ?_ _ | exact xR _))
 have HB1 := hid (show Blk U w.heap.size (cdL t c b pa sa ta la aa ra fa pc sc tc lc ac rc fc s) by rw [← hU]; (show Blk _ _ _; repeat first | (with_reducible first | (refine xH ?_; assumption) | refine bD ?_ | refine bX ?_ _) | (with_reducible refine bN _ _ rfl ?_; first | with_reducible rfl | (simp; done)) | (with_reducible first | refine bA ?_ _ | assumption | apply bS) | (with_reducible refine bO ?_ ?_; first | omega | (simp; omega)) | (show List.set _ _ _ = _; exact rfl) | (show _ < List.length _; simp; done)))
 have HB2 := hid (show Blk U (w.heap.size + 1) [.int .i64 x, .int .u32 y, .int .u32 z, .bool ok] by rw [← hU]; (show Blk _ _ _; repeat first | (with_reducible first | (refine xH ?_; assumption) | refine bD ?_ | refine bX ?_ _) | (with_reducible refine bN _ _ rfl ?_; first | with_reducible rfl | (simp; done)) | (with_reducible first | refine bA ?_ _ | assumption | apply bS) | (with_reducible refine bO ?_ ?_; first | omega | (simp; omega)) | (show List.set _ _ _ = _; exact rfl) | (show _ < List.length _; simp; done)))
 have HB3 := hid (show Blk U (w.heap.size + 1 + 1) [.int .i64 0, .int .i64 0, .int .i64 0, .int .u32 0, .int .u32 0, .int .i64 0, .int .u32 0, .int .u32 0] by rw [← hU]; (show Blk _ _ _; repeat first | (with_reducible first | (refine xH ?_; assumption) | refine bD ?_ | refine bX ?_ _) | (with_reducible refine bN _ _ rfl ?_; first | with_reducible rfl | (simp; done)) | (with_reducible first | refine bA ?_ _ | assumption | apply bS) | (with_reducible refine bO ?_ ?_; first | omega | (simp; omega)) | (show List.set _ _ _ = _; exact rfl) | (show _ < List.length _; simp; done)))
 clear hU
 obtain ⟨g, hg⟩ : ∃ g, g = w.heap.size := ⟨_, rfl⟩
 have hgg := Grn.of_ext (g := g) HEU.out
 have HD := hid (show Cd t c b U g s pa sa ta la aa ra fa pc sc tc lc ac rc fc from by
  have HE := HC.out
  rw [hg] at hgg ⊢
  exact ⟨HB1.out, HE.pl.sn.grn locE_len hgg, HE.sl.sn.grn locE_len hgg, HE.th.sn.grn locE_len hgg, HE.loads.sn.grn locE_len hgg, HE.acts.sn.grn acE_len hgg, HE.stored.sn.grn locE_len hgg, HE.loaded.sn.grn fdE_len hgg, HE.tight, by have := HB3.out.1; omega⟩)
 have HGw := hid (show w.heap.size = g from hg.symm)
 have hcon : Tryd.prog.concrete 81 = true := by kernel_rfl
 rw [← hg] at HB2 HB3
 simp only [← hg]
 have hwg : w.heap.size ≤ g := by omega
 generalize Value.agg (cdL t c b pa sa ta la aa ra fa pc sc tc lc ac rc fc s).toArray = V0
 clear hgg HB1 hg
 have n12 := HD.out.blk.2.2 12 _ rfl
 have ng := HD.out.blk.1
 go_upto_if 9 with fail
 go_cut [] (fun wx => Cx t c b wx g (cTake s (x, y, z)) ∧ Grn g U wx)
 case first =>
  cases hL : s.loading
  ·rw [hL] at n12
   have HT := hid (take_idle hL (x, y, z))
   clear hL
   go_wp2_with fail
   go_meet
   rw [HT.out]
   exact ⟨⟨_, _, _, _, _, _, _, _, _, _, _, _, _, _, HD.out⟩, Grn.refl⟩
  ·obtain ⟨p, r, hpr⟩ := HLd.out hL
   rw [hL] at n12
   have HT := hid (show cTake s (x, y, z) = { s with loaded := s.loaded ++ [(p, (x, y, z))], loads := r, loading := false } by unfold cTake; rw [if_pos hL, hpr]; rfl)
   obtain ⟨N, hN⟩ : ∃ N, N = s.loaded.length := ⟨_, rfl⟩
   obtain ⟨m, hm⟩ : ∃ m, m = r.length := ⟨_, rfl⟩
   have n8 := HD.out.blk.2.2 8 _ rfl
   have n11 := HD.out.blk.2.2 11 _ rfl
   rw [hpr, List.length_cons, ← hm] at n8
   rw [← hN] at n11 hlen
   have HSl := hid (show Sn U g 1 locE (.slice la (m + 1) lc) (p :: r) by have := HD.out.loads; rw [hpr] at this; rw [hm]; exact this)
   have HFd := hid (show Sl U 4 fdE (.slice fa N fc) s.loaded by have := HD.out.loaded.1; rw [hN]; exact this)
   have HTi := hid (show s.part = 1 ∨ s.part = 2 → lc = m + 1 by intro h; rw [HD.out.tight h, hpr, List.length_cons, hm])
   obtain ⟨hq, b0, o0, hab, hb0, hc0⟩ := Sl.at HSl.out.1 (i := 0) (x := p) rfl
   have k0 := hc0 0 (by omega)
   simp [locE] at k0
   have hmi : (0 : Int) < (m : Int) + 1 := by omega
   have HN := hid hN
   have HM := hid hm
   obtain ⟨p0, p1, p2⟩ : U.cell? ⟨g + 1, 0, none⟩ = some (.int .i64 x) ∧ U.cell? ⟨g + 1, 1, none⟩ = some (.int .u32 y) ∧ U.cell? ⟨g + 1, 2, none⟩ = some (.int .u32 z) := ⟨HB2.out.2.2 0 _ rfl, HB2.out.2.2 1 _ rfl, HB2.out.2.2 2 _ rfl⟩
   have hcap := HSl.out.1.room.2.1
   rw [List.length_cons, ← hm] at hcap
   have e8 := HD.out.blk.2.1 8
   have e11 := HD.out.blk.2.1 11
   have e12 := HD.out.blk.2.1 12
   subst hab
   clear hL hpr hq hc0 hN hm
   go_upto_region 2 with fail
   refine wp_region_facts [10, 11, 12, 13, 14, 15, 16, 17, 18, 19, 20] [0, 1, 2, 3, 4, 5, 6, 7, 8, 9, 10] rfl (fun w' => Ext U w' ∧ (w'.cell? ⟨g, 11, none⟩ = some (.slice fa N fc) ∧ w'.cell? ⟨g, 8, none⟩ = some (.slice (some ⟨b0, o0, none⟩) (m + 1) lc) ∧ g < w'.heap.size) ∧ (w'.cell? ⟨b0, o0, none⟩ = some (.int .i64 p) ∧ w'.cell? ⟨g + 1, 0, none⟩ = some (.int .i64 x) ∧ w'.cell? ⟨g + 1, 1, none⟩ = some (.int .u32 y) ∧ w'.cell? ⟨g + 1, 2, none⟩ = some (.int .u32 z))) (fsAt [IsV ?_, IsV ?_, (fun v w' => ∃ av cv, v = .slice av N cv ∧ Own w' U.heap.size 147 4 fdE v s.loaded), IsV ?_, IsV ?_, IsV ?_, IsV ?_, IsV ?_, IsV ?_, IsV ?_, (fun v w' => ∃ q, v = .slice (some ⟨q, 0, none⟩) 1 1 ∧ Blk w' q (fdE (p, (x, y, z))))]) (by kernel_rfl) (by kernel_rfl) (by exact ⟨(Ext.refl _).drew, ⟨n11, n8, ng⟩, k0, p0, p1, p2⟩) (fun w w' h he => ⟨h.1.trans he, ⟨he.cell h.2.1.1, he.cell h.2.1.2.1, Nat.lt_of_lt_of_le h.2.1.2.2 he.size⟩, he.cell h.2.2.1, he.cell h.2.2.2.1, he.cell h.2.2.2.2.1, he.cell h.2.2.2.2.2⟩) (AllOn.cons (fun _ _ _ h _ => h) (AllOn.cons (fun _ _ _ h _ => h) (AllOn.cons (fun _ _ _ h he => by obtain ⟨q, q2, h1, h2⟩ := h; exact ⟨q, q2, h1, h2.of_ext he⟩) (AllOn.cons (fun _ _ _ h _ => h) (AllOn.cons (fun _ _ _ h _ => h) (AllOn.cons (fun _ _ _ h _ => h) (AllOn.cons (fun _ _ _ h _ => h) (AllOn.cons (fun _ _ _ h _ => h) (AllOn.cons (fun _ _ _ h _ => h) (AllOn.cons (fun _ _ _ h _ => h) (AllOn.cons (fun _ _ _ h he => by obtain ⟨q, h1, h2⟩ := h; exact ⟨q, h1, h2.of he⟩) (AllOn.nil)))))))))))) (AllOn.cons ?_ (AllOn.cons ?_ (AllOn.cons ?_ (AllOn.cons ?_ (AllOn.cons ?_ (AllOn.cons ?_ (AllOn.cons ?_ (AllOn.cons ?_ (AllOn.cons ?_ (AllOn.cons ?_ (AllOn.cons ?_ (AllOn.nil)))))))))))) ?_
   rotate_left 9
   ·intro A w hC hO hD
    have e2 := evO hO 2 rfl
    obtain ⟨cx, ⟨c0, c1, c2⟩, c3, c4, c5, c6⟩ := hC
    clear hD hO
    refine head_val (o := ⟨_, _, _, _, _, _⟩) rfl ?_ rfl rfl ?_ ?_
    rotate_left 1
    ·simp [go_sem, e2, cx, c0, c1, c2, c3, c4, c5, c6, hmi]
     try with_reducible rfl
    ·exact IsV.mk (w := w)
   ·intro A w hC hO hD
    have e10 := evD (hD 0 (by kernel_rfl) 10 rfl)
    obtain ⟨cx, ⟨c0, c1, c2⟩, c3, c4, c5, c6⟩ := hC
    clear hD hO
    refine head_val (o := ⟨_, _, _, _, _, _⟩) rfl ?_ rfl rfl ?_ ?_
    rotate_left 1
    ·simp [go_sem, e10, cx, c0, c1, c2, c3, c4, c5, c6, hmi]
     try with_reducible rfl
    ·exact IsV.mk (w := w)
   ·intro A w hC hO hD
    have e11 := evD (hD 1 (by kernel_rfl) 11 rfl)
    obtain ⟨cx, ⟨c0, c1, c2⟩, c3, c4, c5, c6⟩ := hC
    clear hD hO
    refine head_wp (o := ⟨_, _, _, _, _, _⟩) rfl rfl ?_
    simp [go_sem, e11]
    refine (clone_fd s.loaded _ _ (by rw [← HN.out]; omega) (HFd.out.of fdE_len cx)).mono ?_
    rintro e w' ⟨v', rfl, ⟨r', rfl⟩, hown⟩
    obtain ⟨av, cv, hsh⟩ := Own.shape hown
    exact ⟨v', rfl, ⟨r', rfl⟩, ⟨av, cv, by rw [hsh, HN.out]⟩, Own.mono hown cx.size⟩
   ·intro A w hC hO hD
    have e2 := evO hO 2 rfl
    obtain ⟨cx, ⟨c0, c1, c2⟩, c3, c4, c5, c6⟩ := hC
    clear hD hO
    refine head_val (o := ⟨_, _, _, _, _, _⟩) rfl ?_ rfl rfl ?_ ?_
    rotate_left 1
    ·simp [go_sem, e2, cx, c0, c1, c2, c3, c4, c5, c6, hmi]
     try with_reducible rfl
    ·exact IsV.mk (w := w)
   ·intro A w hC hO hD
    have e13 := evD (hD 3 (by kernel_rfl) 13 rfl)
    obtain ⟨cx, ⟨c0, c1, c2⟩, c3, c4, c5, c6⟩ := hC
    clear hD hO
    refine head_val (o := ⟨_, _, _, _, _, _⟩) rfl ?_ rfl rfl ?_ ?_
    rotate_left 1
    ·simp [go_sem, e13, cx, c0, c1, c2, c3, c4, c5, c6, hmi]
     try with_reducible rfl
    ·exact IsV.mk (w := w)
   ·intro A w hC hO hD
    have e14 := evD (hD 4 (by kernel_rfl) 14 rfl)
    obtain ⟨cx, ⟨c0, c1, c2⟩, c3, c4, c5, c6⟩ := hC
    clear hD hO
    refine head_val (o := ⟨_, _, _, _, _, _⟩) rfl ?_ rfl rfl ?_ ?_
    rotate_left 1
    ·simp [go_sem, e14, cx, c0, c1, c2, c3, c4, c5, c6, hmi]
     try with_reducible rfl
    ·exact IsV.mk (w := w)
   ·intro A w hC hO hD
    have e15 := evD (hD 5 (by kernel_rfl) 15 rfl)
    obtain ⟨cx, ⟨c0, c1, c2⟩, c3, c4, c5, c6⟩ := hC
    clear hD hO
    refine head_val (o := ⟨_, _, _, _, _, _⟩) rfl ?_ rfl rfl ?_ ?_
    rotate_left 1
    ·simp [go_sem, e15, cx, c0, c1, c2, c3, c4, c5, c6, hmi]
     try with_reducible rfl
    ·exact IsV.mk (w := w)
   ·intro A w hC hO hD
    have e3 := evO hO 3 rfl
    obtain ⟨cx, ⟨c0, c1, c2⟩, c3, c4, c5, c6⟩ := hC
    clear hD hO
    refine head_val (o := ⟨_, _, _, _, _, _⟩) rfl ?_ rfl rfl ?_ ?_
    rotate_left 1
    ·simp [go_sem, e3, cx, c0, c1, c2, c3, c4, c5, c6, hmi]
     try with_reducible rfl
    ·exact IsV.mk (w := w)
   ·intro A w hC hO hD
    have e17 := evD (hD 7 (by kernel_rfl) 17 rfl)
    obtain ⟨cx, ⟨c0, c1, c2⟩, c3, c4, c5, c6⟩ := hC
    clear hD hO
    refine head_val (o := ⟨_, _, _, _, _, _⟩) rfl ?_ rfl rfl ?_ ?_
    rotate_left 1
    ·simp [go_sem, e17, cx, c0, c1, c2, c3, c4, c5, c6, hmi]
     try with_reducible rfl
    ·exact IsV.mk (w := w)
   ·intro A w hC hO hD
    have e16 := evD (hD 6 (by kernel_rfl) 16 rfl)
    have e18 := evD (hD 8 (by kernel_rfl) 18 rfl)
    obtain ⟨cx, ⟨c0, c1, c2⟩, c3, c4, c5, c6⟩ := hC
    clear hD hO
    refine head_val (o := ⟨_, _, _, _, _, _⟩) rfl ?_ rfl rfl ?_ ?_
    rotate_left 1
    ·simp [go_sem, e16, e18, cx, c0, c1, c2, c3, c4, c5, c6, hmi]
     try with_reducible rfl
    ·exact IsV.mk (w := w)
   ·intro A w hC hO hD
    have e19 := evD (hD 9 (by kernel_rfl) 19 rfl)
    obtain ⟨cx, ⟨c0, c1, c2⟩, c3, c4, c5, c6⟩ := hC
    clear hD hO
    refine head_wp (o := ⟨_, _, _, _, _, _⟩) rfl rfl ?_
    simp [go_sem, e19]
    exact ⟨_, rfl, Ext.of_alloc _ _, _, rfl, Blk.new _ _ rfl rfl⟩
   intro u wx hC hF
   obtain ⟨f0, f1, f2, f3, f4, f5, f6, f7, f8, f9, f10, _⟩ := hF
   have g0 : u 0 = _ := f0
   have g1 : u 1 = _ := f1
   obtain ⟨v2, g2⟩ : ∃ v, u 2 = v := ⟨_, rfl⟩
   rw [g2] at f2
   have g3 : u 3 = _ := f3
   have g4 : u 4 = _ := f4
   have g5 : u 5 = _ := f5
   have g6 : u 6 = _ := f6
   have g7 : u 7 = _ := f7
   have g8 : u 8 = _ := f8
   have g9 : u 9 = _ := f9
   obtain ⟨v10, g10⟩ : ∃ v, u 10 = v := ⟨_, rfl⟩
   rw [g10] at f10
   simp only [fPut, Nat.zero_add, Nat.reduceAdd, g0, g1, g2, g3, g4, g5, g6, g7, g8, g9, g10, Act.put, List.setIfInBounds_toArray, List.set_cons_zero, List.set_cons_succ, List.length_cons, List.length_nil, List.drop_succ_cons, List.drop_zero]
   clear g0 g1 g2 g3 g4 g5 g6 g7 g8 g9 g10 f0 f1 f3 f4 f5 f6 f7 f8 f9
   obtain ⟨av, cv, hv2, ho2⟩ := f2
   subst hv2
   obtain ⟨q, hv10, hq10⟩ := f10
   subst hv10
   have HX := hid hC.1
   have HO2 := hid ho2
   have HQ := hid hq10
   clear hC ho2 hq10
   go_wp2_with (at_builtin; refine fd_append rfl _ _ rfl U HX.out (Nat.le_refl _) HX.out.size rfl HO2.out _ 1 1 rfl [(p, (x, y, z))] rfl (blk_news HQ.out) (by rw [← HN.out]; omega) ?_; rintro v9 r9 hv9; obtain ⟨a9, c9, hs9⟩ := Own.shape hv9; rw [List.length_append, ← HN.out] at hs9; simp only [List.length_cons, List.length_nil, Nat.zero_add] at hs9; subst hs9; have HV9 := hid hv9; clear hv9)
   all_goals
    have HDx := hid (HD.out.of (show Ext U (ext U r9) by (show Ext _ _; repeat first | (with_reducible first | (refine xH ?_; assumption) | exact xR _ | refine xX ?_ _ | refine xA ?_ _) | refine xD ?_ | refine xN ?_ _ | exact xR _)))
    have HSx := hid (HSl.out.grn locE_len (show Grn g U (ext U r9) from Grn.of_ext (by (show Ext _ _; repeat first | (with_reducible first | (refine xH ?_; assumption) | exact xR _ | refine xX ?_ _ | refine xA ?_ _) | refine xD ?_ | refine xN ?_ _ | exact xR _))))
    have HL9 := hid (show N + 1 = (s.loaded ++ [(p, (x, y, z))]).length by rw [List.length_append, HN.out]; rfl)
    go_meet
    rw [HT.out]
   ·exact ⟨⟨_, _, _, _, _, _, _, _, _, _, _, _, _, _, Cd.loads8' HDx.out HM.out HL9.out (HSx.out.tail1 (by assumption)) (Own.sn fdE_len HV9.out HD.out.big) (fun h => by have h1 := HTi.out h; have h2 := HM.out; omega)⟩, (((Grn.of_ext (by (show Ext _ _; repeat first | (with_reducible first | (refine xH ?_; assumption) | exact xR _ | refine xX ?_ _ | refine xA ?_ _) | refine xD ?_ | refine xN ?_ _ | exact xR _))).setCell _ _).setCell _ _).setCell _ _⟩
   ·exact ⟨⟨_, _, _, _, _, _, _, _, _, _, _, _, _, _, Cd.loads8' HDx.out HM.out HL9.out (HSx.out.tail2 (by assumption)) (Own.sn fdE_len HV9.out HD.out.big) (fun h => by have h1 := HTi.out h; have h2 := HM.out; omega)⟩, (((Grn.of_ext (by (show Ext _ _; repeat first | (with_reducible first | (refine xH ?_; assumption) | exact xR _ | refine xX ?_ _ | refine xA ?_ _) | refine xD ?_ | refine xN ?_ _ | exact xR _))).setCell _ _).setCell _ _).setCell _ _⟩
 case rest =>
  obtain ⟨hcx, hgu⟩ := hcut
  have HGU := hid hgu
  have HCx := hid hcx
  clear hcx hgu n12
  go_wp2_with fail
  go_loopg [] n (fun k wr => ∃ cs, Hid (Spin K k cs c' a d) ∧ Hid (Cx t c b wr g cs) ∧ Hid (CInv sz cs) ∧ Hid (Grn g U wr))
  case atStart => exact ⟨_, HSp, HCx, HIv, HGU⟩
  case round =>
  clear HGU HCx
  obtain ⟨cs, HSk, HCx, HIc, HG⟩ := hrel
  have hsk := HSk.out
  obtain ⟨pa', sa', ta', la', aa', ra', fa', pc', sc', tc', lc', ac', rc', fc', hcd⟩ := HCx.out
  have HDc := hid hcd
  have mg := hcd.blk.1
  have m6 := hcd.blk.2.2 6 _ rfl
  have m8 := hcd.blk.2.2 8 _ rfl
  have m9 := hcd.blk.2.2 9 _ rfl
  clear hcd
  cases hsk with
  | act _ _ r hA =>
   obtain ⟨A1, A2, A3, A4, A5⟩ := a
   obtain ⟨m, hm⟩ : ∃ m, m = r.length := ⟨_, rfl⟩
   rw [hA, List.length_cons, ← hm] at m9
   have HSl := hid (show Sn wr g 8 acE (.slice aa' (m + 1) ac') ((A1, A2, A3, A4, A5) :: r) by have := HDc.out.acts; rw [hA, List.length_cons, ← hm] at this; exact this)
   obtain ⟨hq, b0, o0, hab, hb0, hc0⟩ := Sl.at HSl.out.1 (i := 0) (x := (A1, A2, A3, A4, A5)) rfl
   have k0 := hc0 0 (by omega)
   have k1 := hc0 1 (by omega)
   have k2 := hc0 2 (by omega)
   have k3 := hc0 3 (by omega)
   have k4 := hc0 4 (by omega)
   have k5 := hc0 5 (by omega)
   have k6 := hc0 6 (by omega)
   have k7 := hc0 7 (by omega)
   simp [acE] at k0 k1 k2 k3 k4 k5 k6 k7
   have hmi : (0 : Int) < (m : Int) + 1 := by omega
   have f9 := HDc.out.blk.2.1 9
   have HM := hid hm
   subst hab
   clear hq hc0 hA hm m6 m8
   go_upto_region 6 with fail
   go_cut [] (fun wx => ∃ aw cw, Hid (Cd t c b wx g { cs with acts := r } pa' sa' ta' la' aw ra' fa' pc' sc' tc' lc' cw rc' fc') ∧ Hid (Blk wx wr.heap.size (acE (A1, A2, A3, A4, A5))) ∧ Hid (Grn g U wx))
   case first =>
    go_wp2_with fail
    all_goals
     go_meet
    ·exact ⟨_, _, hid ((Cd.acts9 HDc.out HM.out (HSl.out.atail1 (by assumption))).of (Ext.of_alloc _ _)), hid (Blk.new _ _ rfl (by simp)), hid (HG.out.trans ((Grn.refl.setCell _ _).alloc _))⟩
    ·exact ⟨_, _, hid ((Cd.acts9 HDc.out HM.out (HSl.out.atail2 (by assumption))).of (Ext.of_alloc _ _)), hid (Blk.new _ _ rfl (by simp)), hid (HG.out.trans ((Grn.refl.setCell _ _).alloc _))⟩
   case rest =>
    clear m9 k0 k1 k2 k3 k4 k5 k6 k7 hmi f9
    obtain ⟨aw, cw, HDw, HBw, HGv⟩ := hcut
    have HB3' := hid (HB3.out.grn HGv.out (by omega))
    have b3s := HB3'.out.1
    have b3f := HB3'.out.2.1
    have q0 := HDw.out.blk.2.2 0 _ rfl
    have q1 := HDw.out.blk.2.2 1 _ rfl
    have q2 := HDw.out.blk.2.2 2 _ rfl
    have q3 := HDw.out.blk.2.2 3 _ rfl
    have q4 := HDw.out.blk.2.2 4 _ rfl
    have q5 := HDw.out.blk.2.2 5 _ rfl
    have q6 := HDw.out.blk.2.2 6 _ rfl
    have q7 := HDw.out.blk.2.2 7 _ rfl
    have q8 := HDw.out.blk.2.2 8 _ rfl
    have q9 := HDw.out.blk.2.2 9 _ rfl
    have q10 := HDw.out.blk.2.2 10 _ rfl
    have q11 := HDw.out.blk.2.2 11 _ rfl
    have q12 := HDw.out.blk.2.2 12 _ rfl
    have q13 := HDw.out.blk.2.2 13 _ rfl
    obtain ⟨a0, a1, a2, a3, a4, a5, a6, a7⟩ := HBw.out.eight
    have sb := HBw.out.1
    have sg := HDw.out.blk.1
    go_upto_region 7 with fail
    refine wp_region_facts [41, 42, 43, 4] [0, 1, 2, 3] rfl (fun w' => Ext wc w') (fsAt [IsV ?_, IsV ?_, IsV ?_, IsV ?_]) (by kernel_rfl) (by kernel_rfl) ((Ext.refl _).drew) (fun w w' h he => h.trans he) (AllOn.cons (fun _ _ _ h _ => h) (AllOn.cons (fun _ _ _ h _ => h) (AllOn.cons (fun _ _ _ h _ => h) (AllOn.cons (fun _ _ _ h _ => h) (AllOn.nil))))) (AllOn.cons ?_ (AllOn.cons ?_ (AllOn.cons ?_ (AllOn.cons ?_ (AllOn.nil))))) ?_
    rotate_left 4
    ·intro A w cx hO hD
     have e2 := evO hO 2 rfl
     clear hD hO
     refine head_val (o := ⟨_, _, _, _, _, _⟩) rfl ?_ rfl rfl ?_ ?_
     rotate_left 1
     ·simp [go_sem, e2, cx, hcon, cx.cell q0, cx.cell q1, cx.cell q2, cx.cell q3, cx.cell q4, cx.cell q5, cx.cell q6, cx.cell q7, cx.cell q8, cx.cell q9, cx.cell q10, cx.cell q11, cx.cell q12, cx.cell q13, Nat.lt_of_lt_of_le sg cx.size, Nat.lt_of_lt_of_le sb cx.size, cx.cell a0, cx.cell a1, cx.cell a2, cx.cell a3, cx.cell a4, cx.cell a5, cx.cell a6, cx.cell a7]
      try with_reducible rfl
     ·exact IsV.mk (w := w)
    ·intro A w cx hO hD
     have e41 := evD (hD 0 (by kernel_rfl) 41 rfl)
     clear hD hO
     refine head_val (o := ⟨_, _, _, _, _, _⟩) rfl ?_ rfl rfl ?_ ?_
     rotate_left 1
     ·simp [go_sem, e41, cx, hcon, cx.cell q0, cx.cell q1, cx.cell q2, cx.cell q3, cx.cell q4, cx.cell q5, cx.cell q6, cx.cell q7, cx.cell q8, cx.cell q9, cx.cell q10, cx.cell q11, cx.cell q12, cx.cell q13, Nat.lt_of_lt_of_le sg cx.size, Nat.lt_of_lt_of_le sb cx.size, cx.cell a0, cx.cell a1, cx.cell a2, cx.cell a3, cx.cell a4, cx.cell a5, cx.cell a6, cx.cell a7]
      try with_reducible rfl
     ·exact IsV.mk (w := w)
    ·intro A w cx hO hD
     have e7 := evO hO 7 rfl
     clear hD hO
     refine head_val (o := ⟨_, _, _, _, _, _⟩) rfl ?_ rfl rfl ?_ ?_
     rotate_left 1
     ·simp [go_sem, e7, cx, hcon, cx.cell q0, cx.cell q1, cx.cell q2, cx.cell q3, cx.cell q4, cx.cell q5, cx.cell q6, cx.cell q7, cx.cell q8, cx.cell q9, cx.cell q10, cx.cell q11, cx.cell q12, cx.cell q13, Nat.lt_of_lt_of_le sg cx.size, Nat.lt_of_lt_of_le sb cx.size, cx.cell a0, cx.cell a1, cx.cell a2, cx.cell a3, cx.cell a4, cx.cell a5, cx.cell a6, cx.cell a7]
      try with_reducible rfl
     ·exact IsV.mk (w := w)
    ·intro A w cx hO hD
     have e42 := evD (hD 1 (by kernel_rfl) 42 rfl)
     clear hD hO
     refine head_val (o := ⟨_, _, _, _, _, _⟩) rfl ?_ rfl rfl ?_ ?_
     rotate_left 1
     ·simp [go_sem, e42, cx, hcon, cx.cell q0, cx.cell q1, cx.cell q2, cx.cell q3, cx.cell q4, cx.cell q5, cx.cell q6, cx.cell q7, cx.cell q8, cx.cell q9, cx.cell q10, cx.cell q11, cx.cell q12, cx.cell q13, Nat.lt_of_lt_of_le sg cx.size, Nat.lt_of_lt_of_le sb cx.size, cx.cell a0, cx.cell a1, cx.cell a2, cx.cell a3, cx.cell a4, cx.cell a5, cx.cell a6, cx.cell a7]
      try with_reducible rfl
     ·exact IsV.mk (w := w)
    intro u wx hC hF
    obtain ⟨f0, f1, f2, f3, _⟩ := hF
    have g0 : u 0 = _ := f0
    have g1 : u 1 = _ := f1
    have g2 : u 2 = _ := f2
    have g3 : u 3 = _ := f3
    simp only [fPut, Nat.zero_add, Nat.reduceAdd, g0, g1, g2, g3, Act.put, List.setIfInBounds_toArray, List.set_cons_zero, List.set_cons_succ, List.length_cons, List.length_nil, List.drop_succ_cons, List.drop_zero]
    clear g0 g1 g2 g3 f0 f1 f2 f3
    have HX := hid hC
    have HBx := hid (HB3'.out.of hC)
    have y0 := HBx.out.1
    have y1 := HBx.out.2.1
    obtain ⟨z0, z1, z2, z3, z4, z5, z6, z7⟩ := HBx.out.eight
    clear hC q0 q1 q2 q3 q4 q5 q6 q7 q8 q9 q10 q11 q12 q13 a0 a1 a2 a3 a4 a5 a6 a7 b3s b3f sb sg
    (repeat (first | go_values | go_skip | go_guarded | go_step | go_upon | (simp only [Int.not_lt, Int.not_le] at *; go_simp) | (go_ite <;> go_prune <;> (try go_simp))))
    obtain ⟨HZ, HGz⟩ := st8 HBx.out (.int .i64 A1) (.int .i64 A2) (.int .i64 0) (.int .u32 0) (.int .u32 0) (.int .i64 A3) (.int .u32 A4) (.int .u32 A5)
    have HE8 := hid (Ext.grn ((Ext.grn HEU.out HGv.out hwg).trans HX.out) HGz (by omega))
    have HC8 := hid ((HDw.out.of HX.out).cv2 HGz)
    obtain ⟨r0, r1, r2, r3, r4, r5, r6, r7⟩ := HZ.eight
    have r8 := HZ.1
    generalize World.setCell _ ⟨g + 1 + 1, 7, none⟩ _ = Z at HE8 HC8 r0 r1 r2 r3 r4 r5 r6 r7 r8 ⊢
    exact bodyPost_ret (v := .tuple #[.iface 81 (.agg (cdL t c b pa' sa' ta' la' aw ra' fa' pc' sc' tc' lc' cw rc' fc' { cs with acts := r }).toArray), .agg (acE (A1, A2, A3, A4, A5)).toArray, .bool false]) (by simp [results, Tryd.results95, go_sem, r0, r1, r2, r3, r4, r5, r6, r7, r8, cdL, acE]) rfl ⟨_, rfl, (by rw [HGw.out]; exact HC8.out), HE8.out⟩
  | load _ p r hA hL =>
   obtain ⟨m, hm⟩ : ∃ m, m = r.length := ⟨_, rfl⟩
   have HSn := hid HDc.out.loads
   rw [hL, List.length_cons, ← hm] at HSn m8
   rw [hA, List.length_nil] at m9
   obtain ⟨hq, b0, o0, hab, hb0, hc0⟩ := Sl.at HSn.out.1 (i := 0) (x := p) rfl
   subst hab
   have hbg : b0 < g ∨ g + 3 ≤ b0 := (HSn.out.2 (by simp) _ _ _ rfl).imp (fun h => h.1) id
   have hb9 : b0 ≠ g := by omega
   have k0 := hc0 0 (by omega)
   simp [locE] at k0
   have hmi : (0 : Int) < (m : Int) + 1 := by omega
   have f12 := HDc.out.blk.2.1 12
   have m12 := HDc.out.blk.2.2 12 _ rfl
   have HM := hid hm
   have HA0 := hid hA
   have HL0 := hid hL
   clear hq hc0 hA hL hm m6
   go_upto_region 10 with fail
   generalize hZ : World.setCell _ _ _ = Z
   have HDw := hid (show Cd t c b Z g { cs with loading := true } _ _ _ _ _ _ _ _ _ _ _ _ _ _ from by rw [← hZ]; exact HDc.out.load12 true)
   have HGv := hid (show Grn g U Z by rw [← hZ]; exact HG.out.trans (Grn.refl.setCell _ _))
   have k1 : Z.cell? ⟨b0, o0, none⟩ = some (.int .i64 p) := by rw [← hZ]; exact Grn.cell (Grn.refl.setCell _ _) hb9 k0
   have HB3' := hid (HB3.out.grn HGv.out (by omega))
   clear hZ k0 m9 f12 m12
   have q0 := HDw.out.blk.2.2 0 _ rfl
   have q1 := HDw.out.blk.2.2 1 _ rfl
   have q2 := HDw.out.blk.2.2 2 _ rfl
   have q3 := HDw.out.blk.2.2 3 _ rfl
   have q4 := HDw.out.blk.2.2 4 _ rfl
   have q5 := HDw.out.blk.2.2 5 _ rfl
   have q6 := HDw.out.blk.2.2 6 _ rfl
   have q7 := HDw.out.blk.2.2 7 _ rfl
   have q8 := HDw.out.blk.2.2 8 _ rfl
   have q9 := HDw.out.blk.2.2 9 _ rfl
   have q10 := HDw.out.blk.2.2 10 _ rfl
   have q11 := HDw.out.blk.2.2 11 _ rfl
   have q12 := HDw.out.blk.2.2 12 _ rfl
   have q13 := HDw.out.blk.2.2 13 _ rfl
   rw [HL0.out, List.length_cons, ← HM.out] at q8
   have sg := HDw.out.blk.1
   refine wp_region_facts [50, 51, 52, 53, 54, 55, 56, 4] [0, 1, 2, 3, 4, 5, 6, 7] rfl (fun w' => Ext Z w') (fsAt [IsV ?_, IsV ?_, IsV ?_, IsV ?_, IsV ?_, IsV ?_, IsV ?_, IsV ?_]) (by kernel_rfl) (by kernel_rfl) ((Ext.refl _).drew) (fun w w' h he => h.trans he) (AllOn.cons (fun _ _ _ h _ => h) (AllOn.cons (fun _ _ _ h _ => h) (AllOn.cons (fun _ _ _ h _ => h) (AllOn.cons (fun _ _ _ h _ => h) (AllOn.cons (fun _ _ _ h _ => h) (AllOn.cons (fun _ _ _ h _ => h) (AllOn.cons (fun _ _ _ h _ => h) (AllOn.cons (fun _ _ _ h _ => h) (AllOn.nil))))))))) (AllOn.cons ?_ (AllOn.cons ?_ (AllOn.cons ?_ (AllOn.cons ?_ (AllOn.cons ?_ (AllOn.cons ?_ (AllOn.cons ?_ (AllOn.cons ?_ (AllOn.nil))))))))) ?_
   rotate_left 8
   ·intro A w cx hO hD
    have e2 := evO hO 2 rfl
    clear hD hO
    refine head_val (o := ⟨_, _, _, _, _, _⟩) rfl ?_ rfl rfl ?_ ?_
    rotate_left 1
    ·simp [go_sem, e2, cx, hcon, hmi, cx.cell q0, cx.cell q1, cx.cell q2, cx.cell q3, cx.cell q4, cx.cell q5, cx.cell q6, cx.cell q7, cx.cell q8, cx.cell q9, cx.cell q10, cx.cell q11, cx.cell q12, cx.cell q13, Nat.lt_of_lt_of_le sg cx.size, cx.cell k1]
     try with_reducible rfl
    ·exact IsV.mk (w := w)
   ·intro A w cx hO hD
    have e50 := evD (hD 0 (by kernel_rfl) 50 rfl)
    clear hD hO
    refine head_val (o := ⟨_, _, _, _, _, _⟩) rfl ?_ rfl rfl ?_ ?_
    rotate_left 1
    ·simp [go_sem, e50, cx, hcon, hmi, cx.cell q0, cx.cell q1, cx.cell q2, cx.cell q3, cx.cell q4, cx.cell q5, cx.cell q6, cx.cell q7, cx.cell q8, cx.cell q9, cx.cell q10, cx.cell q11, cx.cell q12, cx.cell q13, Nat.lt_of_lt_of_le sg cx.size, cx.cell k1]
     try with_reducible rfl
    ·exact IsV.mk (w := w)
   ·intro A w cx hO hD
    have e2 := evO hO 2 rfl
    clear hD hO
    refine head_val (o := ⟨_, _, _, _, _, _⟩) rfl ?_ rfl rfl ?_ ?_
    rotate_left 1
    ·simp [go_sem, e2, cx, hcon, hmi, cx.cell q0, cx.cell q1, cx.cell q2, cx.cell q3, cx.cell q4, cx.cell q5, cx.cell q6, cx.cell q7, cx.cell q8, cx.cell q9, cx.cell q10, cx.cell q11, cx.cell q12, cx.cell q13, Nat.lt_of_lt_of_le sg cx.size, cx.cell k1]
     try with_reducible rfl
    ·exact IsV.mk (w := w)
   ·intro A w cx hO hD
    have e52 := evD (hD 2 (by kernel_rfl) 52 rfl)
    clear hD hO
    refine head_val (o := ⟨_, _, _, _, _, _⟩) rfl ?_ rfl rfl ?_ ?_
    rotate_left 1
    ·simp [go_sem, e52, cx, hcon, hmi, cx.cell q0, cx.cell q1, cx.cell q2, cx.cell q3, cx.cell q4, cx.cell q5, cx.cell q6, cx.cell q7, cx.cell q8, cx.cell q9, cx.cell q10, cx.cell q11, cx.cell q12, cx.cell q13, Nat.lt_of_lt_of_le sg cx.size, cx.cell k1]
     try with_reducible rfl
    ·exact IsV.mk (w := w)
   ·intro A w cx hO hD
    have e53 := evD (hD 3 (by kernel_rfl) 53 rfl)
    clear hD hO
    refine head_val (o := ⟨_, _, _, _, _, _⟩) rfl ?_ rfl rfl ?_ ?_
    rotate_left 1
    ·simp [go_sem, e53, cx, hcon, hmi, cx.cell q0, cx.cell q1, cx.cell q2, cx.cell q3, cx.cell q4, cx.cell q5, cx.cell q6, cx.cell q7, cx.cell q8, cx.cell q9, cx.cell q10, cx.cell q11, cx.cell q12, cx.cell q13, Nat.lt_of_lt_of_le sg cx.size, cx.cell k1]
     try with_reducible rfl
    ·exact IsV.mk (w := w)
   ·intro A w cx hO hD
    have e54 := evD (hD 4 (by kernel_rfl) 54 rfl)
    clear hD hO
    refine head_val (o := ⟨_, _, _, _, _, _⟩) rfl ?_ rfl rfl ?_ ?_
    rotate_left 1
    ·simp [go_sem, e54, cx, hcon, hmi, cx.cell q0, cx.cell q1, cx.cell q2, cx.cell q3, cx.cell q4, cx.cell q5, cx.cell q6, cx.cell q7, cx.cell q8, cx.cell q9, cx.cell q10, cx.cell q11, cx.cell q12, cx.cell q13, Nat.lt_of_lt_of_le sg cx.size, cx.cell k1]
     try with_reducible rfl
    ·exact IsV.mk (w := w)
   ·intro A w cx hO hD
    have e55 := evD (hD 5 (by kernel_rfl) 55 rfl)
    clear hD hO
    refine head_val (o := ⟨_, _, _, _, _, _⟩) rfl ?_ rfl rfl ?_ ?_
    rotate_left 1
    ·simp [go_sem, e55, cx, hcon, hmi, cx.cell q0, cx.cell q1, cx.cell q2, cx.cell q3, cx.cell q4, cx.cell q5, cx.cell q6, cx.cell q7, cx.cell q8, cx.cell q9, cx.cell q10, cx.cell q11, cx.cell q12, cx.cell q13, Nat.lt_of_lt_of_le sg cx.size, cx.cell k1]
     try with_reducible rfl
    ·exact IsV.mk (w := w)
   ·intro A w cx hO hD
    have e51 := evD (hD 1 (by kernel_rfl) 51 rfl)
    clear hD hO
    refine head_val (o := ⟨_, _, _, _, _, _⟩) rfl ?_ rfl rfl ?_ ?_
    rotate_left 1
    ·simp [go_sem, e51, cx, hcon, hmi, cx.cell q0, cx.cell q1, cx.cell q2, cx.cell q3, cx.cell q4, cx.cell q5, cx.cell q6, cx.cell q7, cx.cell q8, cx.cell q9, cx.cell q10, cx.cell q11, cx.cell q12, cx.cell q13, Nat.lt_of_lt_of_le sg cx.size, cx.cell k1]
     try with_reducible rfl
    ·exact IsV.mk (w := w)
   intro u wx hC hF
   obtain ⟨f0, f1, f2, f3, f4, f5, f6, f7, _⟩ := hF
   have g0 : u 0 = _ := f0
   have g1 : u 1 = _ := f1
   have g2 : u 2 = _ := f2
   have g3 : u 3 = _ := f3
   have g4 : u 4 = _ := f4
   have g5 : u 5 = _ := f5
   have g6 : u 6 = _ := f6
   have g7 : u 7 = _ := f7
   simp only [fPut, Nat.zero_add, Nat.reduceAdd, g0, g1, g2, g3, g4, g5, g6, g7, Act.put, List.setIfInBounds_toArray, List.set_cons_zero, List.set_cons_succ, List.length_cons, List.length_nil, List.drop_succ_cons, List.drop_zero]
   clear g0 g1 g2 g3 g4 g5 g6 g7 f0 f1 f2 f3 f4 f5 f6 f7
   have HX := hid hC
   have HBx := hid (HB3'.out.of hC)
   have y0 := HBx.out.1
   have y1 := HBx.out.2.1
   obtain ⟨z0, z1, z2, z3, z4, z5, z6, z7⟩ := HBx.out.eight
   clear hC q0 q1 q2 q3 q4 q5 q6 q7 q8 q9 q10 q11 q12 q13 sg m8 k1
   (repeat (first | go_values | go_skip | go_guarded | go_step | go_upon | (simp only [Int.not_lt, Int.not_le] at *; go_simp) | (go_ite <;> go_prune <;> (try go_simp))))
   obtain ⟨HZ, HGz⟩ := st8 HBx.out (.int .i64 1) (.int .i64 p) (.int .i64 0) (.int .u32 0) (.int .u32 0) (.int .i64 0) (.int .u32 0) (.int .u32 0)
   have HE8 := hid (Ext.grn ((Ext.grn HEU.out HGv.out hwg).trans HX.out) HGz (by omega))
   have HC8 := hid ((HDw.out.of HX.out).cv2 HGz)
   obtain ⟨r0, r1, r2, r3, r4, r5, r6, r7⟩ := HZ.eight
   have r8 := HZ.1
   generalize World.setCell _ ⟨g + 1 + 1, 7, none⟩ _ = Z at HE8 HC8 r0 r1 r2 r3 r4 r5 r6 r7 r8 ⊢
   exact bodyPost_ret (v := .tuple #[.iface 81 (.agg (cdL t c b pa' sa' ta' (some ⟨b0, o0, none⟩) aa' ra' fa' pc' sc' tc' lc' ac' rc' fc' { cs with loading := true }).toArray), .agg (acE ((1 : Int), (p : Int), zW)).toArray, .bool false]) (by simp [results, Tryd.results95, go_sem, r0, r1, r2, r3, r4, r5, r6, r7, r8, cdL, acE, zW, HL0.out, ← HM.out]) rfl ⟨_, rfl, (by rw [HGw.out]; exact HC8.out), HE8.out⟩
  | done _ hA hL h5 =>
   have h5' : (5 : Int) ≤ (cs.step : Int) := by omega
   rw [hA, List.length_nil] at m9
   rw [hL, List.length_nil] at m8
   have HA0 := hid hA
   have HL0 := hid hL
   clear hA hL h5
   go_upto_region 11 with fail
   refine wp_region_facts [58, 59, 60, 61, 62, 57] [0, 1, 2, 3, 4, 5] rfl (fun w' => Ext wr w') (fsAt [IsV ?_, IsV ?_, (fun v w' => ∃ q, v = .slice (some ⟨q, 0, none⟩) 5 5), IsV ?_, IsV ?_, IsV ?_]) (by kernel_rfl) (by kernel_rfl) ((Ext.refl _).drew) (fun w w' h he => h.trans he) (AllOn.cons (fun _ _ _ h _ => h) (AllOn.cons (fun _ _ _ h _ => h) (AllOn.cons (fun _ _ _ h _ => h) (AllOn.cons (fun _ _ _ h _ => h) (AllOn.cons (fun _ _ _ h _ => h) (AllOn.cons (fun _ _ _ h _ => h) (AllOn.nil))))))) (AllOn.cons ?_ (AllOn.cons ?_ (AllOn.cons ?_ (AllOn.cons ?_ (AllOn.cons ?_ (AllOn.cons ?_ (AllOn.nil))))))) ?_
   rotate_left 5
   ·intro A w cx hO hD
    have e2 := evO hO 2 rfl
    clear hD hO
    refine head_val (o := ⟨_, _, _, _, _, _⟩) rfl ?_ rfl rfl ?_ ?_
    rotate_left 1
    ·simp [go_sem, e2, cx, h5', cx.cell m6, Nat.lt_of_lt_of_le mg cx.size]
     try with_reducible rfl
    ·exact IsV.mk (w := w)
   ·intro A w cx hO hD
    have e58 := evD (hD 0 (by kernel_rfl) 58 rfl)
    clear hD hO
    refine head_val (o := ⟨_, _, _, _, _, _⟩) rfl ?_ rfl rfl ?_ ?_
    rotate_left 1
    ·simp [go_sem, e58, cx, h5', cx.cell m6, Nat.lt_of_lt_of_le mg cx.size]
     try with_reducible rfl
    ·exact IsV.mk (w := w)
   ·intro A w cx hO hD
    clear hD hO
    refine head_wp (o := ⟨_, _, _, _, _, _⟩) rfl rfl ?_
    simp [go_sem]
    refine (steps_any _).mono ?_
    rintro e w' ⟨q, rfl, hbq, r', rfl⟩
    exact ⟨_, rfl, ⟨r', rfl⟩, q, rfl⟩
   ·intro A w cx hO hD
    have e60 := hD 2 (by kernel_rfl) 60 rfl
    rw [ev_tm] at e60
    clear hD hO
    refine head_val (o := ⟨_, _, _, _, _, _⟩) rfl ?_ rfl rfl ?_ ?_
    rotate_left 1
    ·obtain ⟨q, e60⟩ := e60; simp [go_sem, e60]
     try with_reducible rfl
    ·exact IsV.mk (w := w)
   ·intro A w cx hO hD
    have e59 := evD (hD 1 (by kernel_rfl) 59 rfl)
    have e61 := evD (hD 3 (by kernel_rfl) 61 rfl)
    clear hD hO
    refine head_val (o := ⟨_, _, _, _, _, _⟩) rfl ?_ rfl rfl ?_ ?_
    rotate_left 1
    ·simp [go_sem, e59, e61, cx, h5', cx.cell m6, Nat.lt_of_lt_of_le mg cx.size]
     try with_reducible rfl
    ·exact IsV.mk (w := w)
   ·intro A w cx hO hD
    have e62 := evD (hD 4 (by kernel_rfl) 62 rfl)
    clear hD hO
    refine head_val (o := ⟨_, _, _, _, _, _⟩) rfl ?_ rfl rfl ?_ ?_
    rotate_left 1
    ·simp [go_sem, e62, cx, h5', cx.cell m6, Nat.lt_of_lt_of_le mg cx.size]
     try with_reducible rfl
    ·exact IsV.mk (w := w)
   intro u wx hC hF
   obtain ⟨f0, f1, f2, f3, f4, f5, _⟩ := hF
   have g0 : u 0 = _ := f0
   have g1 : u 1 = _ := f1
   obtain ⟨v2, g2⟩ : ∃ v, u 2 = v := ⟨_, rfl⟩
   rw [g2] at f2
   have g3 : u 3 = _ := f3
   have g4 : u 4 = _ := f4
   have g5 : u 5 = _ := f5
   simp only [fPut, Nat.zero_add, Nat.reduceAdd, g0, g1, g2, g3, g4, g5, Act.put, List.setIfInBounds_toArray, List.set_cons_zero, List.set_cons_succ, List.length_cons, List.length_nil, List.drop_succ_cons, List.drop_zero]
   clear g0 g1 g2 g3 g4 g5 f0 f1 f3 f4 f5
   clear f2 m6 m8 m9
   have HX := hid hC
   have HDx := hid (HDc.out.of hC)
   have x0 := HDx.out.blk.2.2 13 _ rfl
   have x1 := HDx.out.blk.2.1 13
   have x2 := HDx.out.blk.1
   clear hC
   go_upto_region 13 with fail
   generalize hZ : World.setCell _ _ _ = Z
   have HDw := hid (show Cd t c b Z g { cs with ended := true } _ _ _ _ _ _ _ _ _ _ _ _ _ _ from by rw [← hZ]; exact HDx.out.end13 true)
   have HGv := hid (show Grn g U Z by rw [← hZ]; exact (HG.out.trans (Grn.of_ext HX.out)).trans (Grn.refl.setCell _ _))
   have HBx := hid (HB3.out.grn HGv.out (by omega))
   clear hZ x0 x1 x2
   have q0 := HDw.out.blk.2.2 0 _ rfl
   have q1 := HDw.out.blk.2.2 1 _ rfl
   have q2 := HDw.out.blk.2.2 2 _ rfl
   have q3 := HDw.out.blk.2.2 3 _ rfl
   have q4 := HDw.out.blk.2.2 4 _ rfl
   have q5 := HDw.out.blk.2.2 5 _ rfl
   have q6 := HDw.out.blk.2.2 6 _ rfl
   have q7 := HDw.out.blk.2.2 7 _ rfl
   have q8 := HDw.out.blk.2.2 8 _ rfl
   have q9 := HDw.out.blk.2.2 9 _ rfl
   have q10 := HDw.out.blk.2.2 10 _ rfl
   have q11 := HDw.out.blk.2.2 11 _ rfl
   have q12 := HDw.out.blk.2.2 12 _ rfl
   have q13 := HDw.out.blk.2.2 13 _ rfl
   have sg := HDw.out.blk.1
   have y0 := HBx.out.1
   have y1 := HBx.out.2.1
   obtain ⟨z0, z1, z2, z3, z4, z5, z6, z7⟩ := HBx.out.eight
   (repeat (first | go_values | go_skip | go_guarded | go_step | go_upon | (simp only [Int.not_lt, Int.not_le] at *; go_simp) | (go_ite <;> go_prune <;> (try go_simp))))
   obtain ⟨HZ, HGz⟩ := st8 HBx.out (.int .i64 0) (.int .i64 0) (.int .i64 0) (.int .u32 0) (.int .u32 0) (.int .i64 0) (.int .u32 0) (.int .u32 0)
   have HE8 := hid (Ext.grn (Ext.grn HEU.out HGv.out hwg) HGz (by omega))
   have HC8 := hid (HDw.out.cv2 HGz)
   obtain ⟨r0, r1, r2, r3, r4, r5, r6, r7⟩ := HZ.eight
   have r8 := HZ.1
   clear q0 q1 q2 q3 q4 q5 q6 q7 q8 q9 q10 q11 q12 q13 sg z0 z1 z2 z3 z4 z5 z6 z7 y0 y1
   generalize World.setCell _ ⟨g + 1 + 1, 7, none⟩ _ = Z at HE8 HC8 r0 r1 r2 r3 r4 r5 r6 r7 r8 ⊢
   exact bodyPost_ret (v := .tuple #[.iface 81 (.agg (cdL t c b pa' sa' ta' la' aa' ra' fa' pc' sc' tc' lc' ac' rc' fc' { cs with ended := true }).toArray), .agg (acE ((0 : Int), (0 : Int), zW)).toArray, .bool true]) (by simp [results, Tryd.results95, go_sem, r0, r1, r2, r3, r4, r5, r6, r7, r8, cdL, acE, zW]) rfl ⟨_, rfl, (by rw [HGw.out]; exact HC8.out), HE8.out⟩
  | more k _ _ _ _ hA hL h5 hb hS =>
   have h5' : ¬ (5 : Int) ≤ (cs.step : Int) := by omega
   have h5n : cs.step < 5 := h5
   have h5i : (cs.step : Int) < 5 := by omega
   rw [hA, List.length_nil] at m9
   rw [hL, List.length_nil] at m8
   have HA0 := hid hA
   have HL0 := hid hL
   have HSt := hid hS
   have HBn := hid hb
   clear hA hL hb hS
   go_upto_region 11 with fail
   refine wp_region_facts [58, 59, 60, 61, 62, 57] [0, 1, 2, 3, 4, 5] rfl (fun w' => Ext wr w') (fsAt [IsV ?_, IsV ?_, (fun v w' => ∃ q, v = .slice (some ⟨q, 0, none⟩) 5 5), IsV ?_, IsV ?_, IsV ?_]) (by kernel_rfl) (by kernel_rfl) ((Ext.refl _).drew) (fun w w' h he => h.trans he) (AllOn.cons (fun _ _ _ h _ => h) (AllOn.cons (fun _ _ _ h _ => h) (AllOn.cons (fun _ _ _ h _ => h) (AllOn.cons (fun _ _ _ h _ => h) (AllOn.cons (fun _ _ _ h _ => h) (AllOn.cons (fun _ _ _ h _ => h) (AllOn.nil))))))) (AllOn.cons ?_ (AllOn.cons ?_ (AllOn.cons ?_ (AllOn.cons ?_ (AllOn.cons ?_ (AllOn.cons ?_ (AllOn.nil))))))) ?_
   rotate_left 5
   ·intro A w cx hO hD
    have e2 := evO hO 2 rfl
    clear hD hO
    refine head_val (o := ⟨_, _, _, _, _, _⟩) rfl ?_ rfl rfl ?_ ?_
    rotate_left 1
    ·simp [go_sem, e2, cx, h5i, cx.cell m6, Nat.lt_of_lt_of_le mg cx.size]
     try with_reducible rfl
    ·exact IsV.mk (w := w)
   ·intro A w cx hO hD
    have e58 := evD (hD 0 (by kernel_rfl) 58 rfl)
    clear hD hO
    refine head_val (o := ⟨_, _, _, _, _, _⟩) rfl ?_ rfl rfl ?_ ?_
    rotate_left 1
    ·simp [go_sem, e58, cx, h5i, cx.cell m6, Nat.lt_of_lt_of_le mg cx.size]
     try with_reducible rfl
    ·exact IsV.mk (w := w)
   ·intro A w cx hO hD
    clear hD hO
    refine head_wp (o := ⟨_, _, _, _, _, _⟩) rfl rfl ?_
    simp [go_sem]
    refine (steps_any _).mono ?_
    rintro e w' ⟨q, rfl, hbq, r', rfl⟩
    exact ⟨_, rfl, ⟨r', rfl⟩, q, rfl⟩
   ·intro A w cx hO hD
    have e60 := hD 2 (by kernel_rfl) 60 rfl
    rw [ev_tm] at e60
    clear hD hO
    refine head_val (o := ⟨_, _, _, _, _, _⟩) rfl ?_ rfl rfl ?_ ?_
    rotate_left 1
    ·obtain ⟨q, e60⟩ := e60; simp [go_sem, e60]
     try with_reducible rfl
    ·exact IsV.mk (w := w)
   ·intro A w cx hO hD
    have e59 := evD (hD 1 (by kernel_rfl) 59 rfl)
    have e61 := evD (hD 3 (by kernel_rfl) 61 rfl)
    clear hD hO
    refine head_val (o := ⟨_, _, _, _, _, _⟩) rfl ?_ rfl rfl ?_ ?_
    rotate_left 1
    ·simp [go_sem, e59, e61, cx, h5i, cx.cell m6, Nat.lt_of_lt_of_le mg cx.size]
     try with_reducible rfl
    ·exact IsV.mk (w := w)
   ·intro A w cx hO hD
    have e62 := evD (hD 4 (by kernel_rfl) 62 rfl)
    clear hD hO
    refine head_val (o := ⟨_, _, _, _, _, _⟩) rfl ?_ rfl rfl ?_ ?_
    rotate_left 1
    ·simp [go_sem, e62, cx, h5i, cx.cell m6, Nat.lt_of_lt_of_le mg cx.size]
     try with_reducible rfl
    ·exact IsV.mk (w := w)
   intro u wx hC hF
   obtain ⟨f0, f1, f2, f3, f4, f5, _⟩ := hF
   have g0 : u 0 = _ := f0
   have g1 : u 1 = _ := f1
   obtain ⟨v2, g2⟩ : ∃ v, u 2 = v := ⟨_, rfl⟩
   rw [g2] at f2
   have g3 : u 3 = _ := f3
   have g4 : u 4 = _ := f4
   have g5 : u 5 = _ := f5
   simp only [fPut, Nat.zero_add, Nat.reduceAdd, g0, g1, g2, g3, g4, g5, Act.put, List.setIfInBounds_toArray, List.set_cons_zero, List.set_cons_succ, List.length_cons, List.length_nil, List.drop_succ_cons, List.drop_zero]
   clear g0 g1 g2 g3 g4 g5 f0 f1 f3 f4 f5
   clear f2 m6 m8 m9
   have HX := hid hC
   have HDx := hid (HDc.out.of hC)
   have x6 := HDx.out.blk.2.2 6 _ rfl
   have x2 := HDx.out.blk.1
   clear hC
   go_upto_region 14 with fail
   generalize hwy : wx = wy at HX HDx x6 x2 ⊢
   clear hwy
   refine wp_region_facts [68, 69, 70, 71, 72] [0, 1, 2, 3, 4] rfl (fun w' => Ext wy w') (fsAt [(fun v w' => ∃ q, v = .slice (some ⟨q, 0, none⟩) 5 5 ∧ Blk w' q [.func (.func (phF 0)) #[] #[], .func (.func (phF 1)) #[] #[], .func (.func (phF 2)) #[] #[], .func (.func (phF 3)) #[] #[], .func (.func (phF 4)) #[] #[]]), IsV ?_, IsV ?_, (fun v w' => ∃ q, v = .pointer (some ⟨q, cs.step, none⟩) ∧ Blk w' q [.func (.func (phF 0)) #[] #[], .func (.func (phF 1)) #[] #[], .func (.func (phF 2)) #[] #[], .func (.func (phF 3)) #[] #[], .func (.func (phF 4)) #[] #[]]), IsV ?_]) (by kernel_rfl) (by kernel_rfl) ((Ext.refl _).drew) (fun w w' h he => h.trans he) (AllOn.cons (fun _ _ _ h he => by obtain ⟨q, h1, h2⟩ := h; exact ⟨q, h1, h2.of he⟩) (AllOn.cons (fun _ _ _ h _ => h) (AllOn.cons (fun _ _ _ h _ => h) (AllOn.cons (fun _ _ _ h he => by obtain ⟨q, h1, h2⟩ := h; exact ⟨q, h1, h2.of he⟩) (AllOn.cons (fun _ _ _ h _ => h) (AllOn.nil)))))) (AllOn.cons ?_ (AllOn.cons ?_ (AllOn.cons ?_ (AllOn.cons ?_ (AllOn.cons ?_ (AllOn.nil)))))) ?_
   rotate_left 3
   ·intro A w cx hO hD
    clear hD hO
    refine head_wp (o := ⟨_, _, _, _, _, _⟩) rfl rfl ?_
    simp [go_sem]
    refine (steps_any _).mono ?_
    rintro e w' ⟨q, rfl, hbq, r', rfl⟩
    exact ⟨_, rfl, ⟨r', rfl⟩, q, rfl, hbq⟩
   ·intro A w cx hO hD
    have e2 := evO hO 2 rfl
    clear hD hO
    refine head_val (o := ⟨_, _, _, _, _, _⟩) rfl ?_ rfl rfl ?_ ?_
    rotate_left 1
    ·simp [go_sem, e2, cx, h5n, h5i, cx.cell x6, Nat.lt_of_lt_of_le x2 cx.size]
     try with_reducible rfl
    ·exact IsV.mk (w := w)
   ·intro A w cx hO hD
    have e69 := evD (hD 1 (by kernel_rfl) 69 rfl)
    clear hD hO
    refine head_val (o := ⟨_, _, _, _, _, _⟩) rfl ?_ rfl rfl ?_ ?_
    rotate_left 1
    ·simp [go_sem, e69, cx, h5n, h5i, cx.cell x6, Nat.lt_of_lt_of_le x2 cx.size]
     try with_reducible rfl
    ·exact IsV.mk (w := w)
   ·intro A w cx hO hD
    have e68 := hD 0 (by kernel_rfl) 68 rfl
    rw [ev_tm] at e68
    have e70 := evD (hD 2 (by kernel_rfl) 70 rfl)
    clear hD hO
    refine head_wp (o := ⟨_, _, _, _, _, _⟩) rfl rfl ?_
    obtain ⟨q, e68, hbq⟩ := e68
    simp [go_sem, e68, e70, h5n, h5i]
    exact ⟨_, rfl, Ext.refl _, q, rfl, hbq⟩
   ·intro A w cx hO hD
    have e71 := hD 3 (by kernel_rfl) 71 rfl
    rw [ev_tm] at e71
    clear hD hO
    refine head_val (o := ⟨_, _, _, _, _, _⟩) rfl ?_ rfl rfl ?_ ?_
    rotate_left 1
    ·obtain ⟨q, e71, hbq⟩ := e71; simp [go_sem, e71, phs_get hbq h5n]
     try with_reducible rfl
    ·exact IsV.mk (w := w)
   intro u wx hC hF
   obtain ⟨f0, f1, f2, f3, f4, _⟩ := hF
   obtain ⟨v0, g0⟩ : ∃ v, u 0 = v := ⟨_, rfl⟩
   rw [g0] at f0
   have g1 : u 1 = _ := f1
   have g2 : u 2 = _ := f2
   obtain ⟨v3, g3⟩ : ∃ v, u 3 = v := ⟨_, rfl⟩
   rw [g3] at f3
   have g4 : u 4 = _ := f4
   simp only [fPut, Nat.zero_add, Nat.reduceAdd, g0, g1, g2, g3, g4, Act.put, List.setIfInBounds_toArray, List.set_cons_zero, List.set_cons_succ, List.length_cons, List.length_nil, List.drop_succ_cons, List.drop_zero]
   clear g0 g1 g2 g3 g4 f1 f2 f4
   clear f0 f3 x6 x2
   have HY := hid hC
   have HCy := hid (show Cx t c b wx g cs from ⟨_, _, _, _, _, _, _, _, _, _, _, _, _, _, HDx.out.of HY.out⟩)
   have HGy := hid (show Grn g U wx from (HG.out.trans (Grn.of_ext HX.out)).trans (Grn.of_ext HY.out))
   have HSy := hid (show ∀ w', Grn g wx w' → Szs w' from fun w' k => Szs.of HS.out (Ext.grn HEU.out (HGy.out.trans k) hwg))
   clear hC
   have HP := hid (phase_any K HK.out HCy.out HA0.out HL0.out HBn.out HIc.out HSy.out)
   obtain ⟨fn, hfn⟩ : ∃ f, f = phF cs.step := ⟨_, rfl⟩
   rw [← hfn] at HP ⊢
   have h5c : cs.step = 0 ∨ cs.step = 1 ∨ cs.step = 2 ∨ cs.step = 3 ∨ cs.step = 4 := by omega
   have hfc : fn = 98 ∨ fn = 100 ∨ fn = 101 ∨ fn = 99 := by rcases h5c with h | h | h | h | h <;> rw [hfn, h] <;> simp [phF]
   clear hfn h5c
   rcases hfc with h | h | h | h
   all_goals
    subst h
    cases hph : (cPhase K cs).2
    all_goals
     go_wp2_with (go_call HP.out as e w' ⟨rfl, hcx, hgr⟩; obtain ⟨pz, sz', tz, lz, az, rz, fz, pd, sd, td, ld, ad, rd, fd, hcd⟩ := hcx; have HCz := hid hcd; have HGz := hid hgr; have t6 := hcd.blk.2.2 6 _ rfl; have t7 := hcd.blk.2.1 6; have t8 := hcd.blk.1; clear hcd hgr)
     go_roundg k
     case measure => omega
     case rel =>
      have h1 := HSt.out
      have h2 := cRound_inv (K := K) HIc.out HL0.out
      have h3 := cPhase_step K cs
      rw [hph] at h1 h2
      first
       | (rw [if_neg (by simp)] at h1 h2; exact ⟨_, hid h1, hid ⟨_, _, _, _, _, _, _, _, _, _, _, _, _, _, HCz.out⟩, hid h2, hid (HGy.out.trans HGz.out)⟩)
       | (rw [if_pos rfl] at h1 h2; rw [show wrap64 (((cPhase K cs).1.step : Int) + 1) = (((cPhase K cs).1.step + 1 : Nat) : Int) from by simp only [wrap64]; omega]; exact ⟨_, hid h1, hid ⟨_, _, _, _, _, _, _, _, _, _, _, _, _, _, HCz.out.step6 _⟩, hid h2, hid ((HGy.out.trans HGz.out).setCell _ _)⟩)
end Go.Proofs.YtdpbcfjfnclpiaaDoor
