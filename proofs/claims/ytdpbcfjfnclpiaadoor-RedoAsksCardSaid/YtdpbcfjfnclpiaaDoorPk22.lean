/- Walk of the recovery code's method plain. -/
import Derived.Test.YtdpbcfjfnclpiaaDoorPk21
import Derived.Test.YtdpbcfjfnclpiaaDoorPk18
namespace Go.Proofs.YtdpbcfjfnclpiaaDoor
set_option linter.unusedSimpArgs false
set_option linter.unusedVariables false
open Go.RowKit
theorem Cd.tail3 [LoC] {t c b : Int} {w : World} {g : Nat} {s : CS} {pa sa ta la aa ra fa : Option Addr} {pc sc tc lc ac rc fc : Nat} (h : Cd t c b w g s pa sa ta la aa ra fa pc sc tc lc ac rc fc) {rest : List Nat} {a' : Option Addr} {n c' : Nat} (hn : n = rest.length)
 (hsn : Sn w g 1 locE (.slice a' n c') rest) : Cd t c b ((w.setCell ⟨g, 3, none⟩ (.slice a' n c')).setCell ⟨g, 7, none⟩ (.int .i64 0)) g { s with pl := rest, part := 0 } a' sa ta la aa ra fa c' sc tc lc ac rc fc := by
 subst hn
 have hg : Grn g w ((w.setCell ⟨g, 3, none⟩ (.slice a' rest.length c')).setCell ⟨g, 7, none⟩ (.int .i64 0)) := (Grn.refl.setCell _ _).setCell _ _
 exact ⟨(h.blk.set 3 (by simp) _).set 7 (by simp) _, hsn.grn locE_len hg, h.sl.grn locE_len hg, h.th.grn locE_len hg, h.loads.grn locE_len hg, h.acts.grn acE_len hg, h.stored.grn locE_len hg, h.loaded.grn fdE_len hg, fun h0 => (by rcases h0 with h0 | h0 <;> cases h0), Nat.le_trans h.big hg.size⟩
theorem Cd.part7 [LoC] {t c b : Int} {w : World} {g : Nat} {s : CS} {pa sa ta la aa ra fa : Option Addr} {pc sc tc lc ac rc fc : Nat} (h : Cd t c b w g s pa sa ta la aa ra fa pc sc tc lc ac rc fc) : Cd t c b (w.setCell ⟨g, 7, none⟩ (.int .i64 3)) g { s with part := 3 } pa sa ta la aa ra fa pc sc tc lc ac rc fc := by
 have hg : Grn g w (w.setCell ⟨g, 7, none⟩ (.int .i64 3)) := Grn.refl.setCell _ _
 exact ⟨h.blk.set 7 (by simp) _, h.pl.grn locE_len hg, h.sl.grn locE_len hg, h.th.grn locE_len hg, h.loads.grn locE_len hg, h.acts.grn acE_len hg, h.stored.grn locE_len hg, h.loaded.grn fdE_len hg, fun h0 => (by rcases h0 with h0 | h0 <;> cases h0), Nat.le_trans h.big hg.size⟩
structure KAt (K : RK) (t c b : Int) (sz : Nat) : Prop where
 place : ∀ who, K.place who = placeN t c b who
 lg : ∀ w p, K.lg w p = (logicN t c b w p).1
 ksz : K.sz = sz
 size : sizeN t c b = sz
 le : sz ≤ 5000
 pb : ∀ who, (placeN t c b who).1 ≤ 50000 ∧ (placeN t c b who).2 ≤ 32
theorem KAt.img {K : RK} {t c b : Int} {sz : Nat} (h : KAt K t c b sz) (ld : List (Nat × Wd)) : cImg K ld = imgN sz ld := by unfold cImg imgN; rw [h.ksz]; rfl
theorem KAt.who {K : RK} {t c b : Int} {sz : Nat} (h : KAt K t c b sz) (x y z : Int) : cWho K (x, y, z) = cwB z (whoN z).1 (placeN t c b (whoN z).1).1 := by
 unfold cWho cwB cPl; rw [h.place]
theorem lo_append_gb {ops : Array Oper} {rest : List Oper} {o : Oper} {a : Act} {Q : Exit → Act → World → Prop} {w : World} {base : Nat} {v : Value} {l : List Nat} (hgd : o.guard = none)
 (s x : Operand) (ho : o.op = .call { callee := .builtin .append, args := #[s, x], argTypes := #[76, 76] })
 (hbw : base ≤ w.heap.size) (hs : a.eval s = v) (hown : Lo w base v l)
 (ad : Addr) (m c : Nat) (hx : a.eval x = .slice (some ad) m c) (news : List Nat) (hm : news.length = m)
 (hnews : ∀ (j : Nat) (u : Value), (news.flatMap locE)[j]? = some u → w.cell? (ad.add j) = some u)
 (hlen : l.length + m ≤ 1000000)
 (h : ∀ v' w', Lo w' base v' (l ++ news) → w.grownBy w' v.ownBlock → (v'.ownBlock = v.ownBlock ∨ v'.ownBlock = some w.heap.size) → wpList Tryd.prog ops Q rest (a.put o.dst v') w') : wpList Tryd.prog ops Q (o :: rest) a w := by
 obtain ⟨i0, hi, hz0, hz1, hz2⟩ := info_parts Tryd.infoLoc
 have hl : (news.flatMap locE).length = m * 1 := by rw [← hm]; exact flat_len locE_len news
 refine wpList_append_own_at w hgd s x 76 ho base 44 i0 _ 1 _ Tryd.underlying76 hi hz0 hz1 hz2 rfl (by decide) v l.length (l.flatMap locE) hs hown ad m c (news.flatMap locE) hx hl hnews
  (fun u hu => by obtain ⟨y, _, hy⟩ := List.mem_flatMap.1 hu; exact locE_one y u hy) (by unfold maxLen; omega) (by omega) hbw ?_
 intro v' w' h1 h2 _ h4
 refine h v' w' ?_ h2 h4
 have e1 : (l ++ news).length = l.length + m := by simp [hm]
 have e2 : (l ++ news).flatMap locE = l.flatMap locE ++ news.flatMap locE := by simp
 unfold Lo Own
 rw [e1, e2]
 exact h1
theorem lo_clip {ops : Array Oper} {rest : List Oper} {o : Oper} {a : Act} {Q : Exit → Act → World → Prop} {w : World} {l : List Nat} (hgd : o.guard = none)
 (s x : Operand) (ho : o.op = .call { callee := .builtin .append, args := #[s, x], argTypes := #[76, 76] })
 {sa : Option Addr} {n : Nat} (hs : a.eval s = .slice sa n n) (hsl : Sl w 1 locE (.slice sa n n) l)
 (ad : Addr) (m c : Nat) (hx : a.eval x = .slice (some ad) m c) (news : List Nat) (hm : news.length = m) (hm0 : 0 < m)
 (hnews : ∀ (j : Nat) (u : Value), (news.flatMap locE)[j]? = some u → w.cell? (ad.add j) = some u) (hlen : n + m ≤ 1000000)
 (h : ∀ v' r, Own (ext w r) w.heap.size 44 1 locE v' (l ++ news) → wpList Tryd.prog ops Q rest (a.put o.dst v') (ext w r)) : wpList Tryd.prog ops Q (o :: rest) a w := by
 obtain ⟨i0, hi, hz0, hz1, hz2⟩ := info_parts Tryd.infoLoc
 exact app_clip Tryd.underlying76 hi hz0 hz1 hz2 rfl (by decide) locE_len hgd s x ho hs hsl ad m c hx news hm hm0 hnews (by unfold maxLen; omega) (by omega) h
theorem place_pos {t c b who : Int} (h : (placeN t c b who).2 ≠ 0) : 0 ≤ (placeN t c b who).1 := by
 unfold placeN at h ⊢
 dsimp only at h ⊢
 generalize (if 9 ≤ who then atN t c b 6 (who - 9) 0 else atN t c b 4 (wrap64 (who - 1)) 0) = q at *
 by_cases hq : q < 0
 ·rw [if_pos hq] at h; exact absurd rfl h
 ·rw [if_neg hq]; dsimp only; omega
theorem field_val (x y z : Int) (w : World) : (Instr.field 40 (.agg #[.int .i64 x, .int .u32 y, .int .u32 z]) 0).run Tryd.prog w = .ok (.int .i64 x) w := by kernel_rfl
theorem cPlain2_no {K : RK} {s : CS} {at_ : Nat} {rest : List Nat} (h : s.pl = at_ :: rest) (hp : s.part = 2) (hn : ¬ (1 ≤ (cLast s).1 ∧ (cLast s).1 ≤ (cPl K (cHead s)).2)) : cPlain K s = (cFin K { s with part := 3 } at_ rest, false) := by
 unfold cPlain
 split
 ·rename_i h1; rw [h] at h1; cases h1
 ·rename_i a r h1
  rw [h] at h1
  injection h1 with h2 h3
  subst h2 h3
  rw [if_neg (by omega), if_neg (by omega), if_pos hp, if_neg hn]
theorem cPlain2_yes {K : RK} {s : CS} {at_ : Nat} {rest : List Nat} (h : s.pl = at_ :: rest) (hp : s.part = 2) (hn : 1 ≤ (cLast s).1 ∧ (cLast s).1 ≤ (cPl K (cHead s)).2) :
 cPlain K s = ({ s with part := 3, loads := s.loads ++ (List.range (3 * (cLast s).1.toNat)).map (fun i => (cPl K (cHead s)).1.toNat + 2 + i) }, false) := by
 unfold cPlain
 split
 ·rename_i h1; rw [h] at h1; cases h1
 ·rw [if_neg (by omega), if_neg (by omega), if_pos hp, if_pos hn]
theorem cFin_no {K : RK} {s : CS} {at_ : Nat} {rest : List Nat} {p0 : Nat} {x0 y0 : Int} (h : s.loaded[0]? = some (p0, (x0, y0, 0))) : cFin K s at_ rest = { s with pl := rest, part := 0 } := by
 have : cHead s = (x0, y0, 0) := by
  unfold cHead
  cases hl : s.loaded with
  | nil => rw [hl] at h; cases h
  | cons f r => rw [hl] at h; simp at h; rw [h]
 unfold cFin
 rw [this, if_pos rfl]
theorem cFin_yes {K : RK} {s : CS} {at_ : Nat} {rest : List Nat} {p0 : Nat} {x0 y0 z0 : Int} (h : s.loaded[0]? = some (p0, (x0, y0, z0))) (hz : z0 ≠ 0) : cFin K s at_ rest = { cStore s at_ (K.lg (cImg K s.loaded) at_) with pl := rest, part := 0 } := by
 have : cHead s = (x0, y0, z0) := by
  unfold cHead
  cases hl : s.loaded with
  | nil => rw [hl] at h; cases h
  | cons f r => rw [hl] at h; simp at h; rw [h]
 unfold cFin
 rw [this, if_neg hz]
set_option maxRecDepth 100000 in
set_option maxHeartbeats 2000000 in
theorem plain3_any [LoC] (K : RK) {t c b : Int} {sz : Nat} (hKA : KAt K t c b sz) {w : World} {g : Nat} {s : CS} {pa sa ta la aa ra fa : Option Addr} {pc sc tc lc ac rc fc : Nat} (h : Cd t c b w g s pa sa ta la aa ra fa pc sc tc lc ac rc fc)
 (hb1 : s.acts.length ≤ 100000) (hb2 : s.stored.length ≤ 100000) (hb3 : s.loaded.length ≤ 100000) (hs : ∀ w', Grn g w w' → Szs w') (at_ : Nat) (rest : List Nat) (hpl : s.pl = at_ :: rest) (hat : at_ ≤ 100000) (hin : ∀ f ∈ s.loaded, f.1 < sz ∧ WdOk f.2)
 (k p' p0 : Nat) (x y z x0 y0 z0 : Int) (hk1 : s.loaded.length = k + 1) (hk2 : s.loaded[k]? = some (p', (x, y, z))) (hk3 : s.loaded[0]? = some (p0, (x0, y0, z0))) (hp : 3 ≤ s.part) :
 Calls Tryd.prog 98 #[.pointer (some ⟨g, 0, none⟩)] w fun e w' => e = .returned (.bool (cPlain K s).2) ∧ Cx t c b w' g (cPlain K s).1 ∧ Grn g w w' := by
 have HS := hid hs
 have HK := hid hKA
 have HIn := hid hin
 have HC := hid h
 have HPl := hid hpl
 have lg := h.blk.1
 have l3 := h.blk.2.2 3 _ rfl
 have l7 := h.blk.2.2 7 _ rfl
 have l11 := h.blk.2.2 11 _ rfl
 have f3 := h.blk.2.1 3
 have f7 := h.blk.2.1 7
 have f8 := h.blk.2.1 8
 obtain ⟨n, hn⟩ : ∃ n, n = rest.length := ⟨_, rfl⟩
 have HSl := hid (show Sn w g 1 locE (.slice pa (n + 1) pc) (at_ :: rest) by have := h.pl; rw [hpl] at this; rw [hn]; exact this)
 obtain ⟨hq, b0, o0, hab, hb0, hc0⟩ := Sl.at HSl.out.1 (i := 0) (x := at_) rfl
 have k0 := hc0 0 (by omega)
 simp [locE] at k0
 rw [hpl] at l3
 rw [List.length_cons, ← hn] at l3
 have hni : (0 : Int) < (n : Int) + 1 := by omega
 obtain ⟨hq2, bF, oF, habF, hbF, hcF⟩ := Sl.at h.loaded.1 hk3
 have v0 := hcF 0 (by omega)
 have v1 := hcF 1 (by omega)
 have v2 := hcF 2 (by omega)
 have v3 := hcF 3 (by omega)
 simp [fdE] at v0 v1 v2 v3
 rw [hk1] at l11
 have hki : (0 : Int) < (k : Int) + 1 := by omega
 have HN := hid hn
 have HK1 := hid hk1
 have HK2 := hid hk2
 have HK3 := hid hk3
 have HWz := hid (hin _ (List.mem_of_getElem? hk2)).2
 have HW0 := hid (hin _ (List.mem_of_getElem? hk3)).2
 have HFN := hid (fun K' : RK => cFin_no (K := K') (s := s) (at_ := at_) (rest := rest) (p0 := p0) (x0 := x0) (y0 := y0))
 subst hab habF
 clear hq hq2 hc0 hcF hn h hin hKA hs hk1 hk2 hk3 hpl
 have hq0 : ((s.part : Int) == 0) = false := by simp; omega
 have hq1 : ((s.part : Int) == 1) = false := by simp; omega
 have hq2 : ((s.part : Int) == 2) = false := by simp; omega
 have HP := hid hp
 have HD := HC
 have HG := hid (Grn.refl (g := g) (w := w))
 clear hp
 go_enter Tryd.func98, Tryd.ntmps98
 go_upto_region 24 with fail
 by_cases hz : z0 = 0
 ·have hzb : (z0 != 0) = false := by simpa using hz
  have HZ := hid hz
  have HR := hid (show cPlain K s = ({ s with pl := rest, part := 0 }, false) by unfold cPlain; rw [HPl.out]; dsimp only; rw [if_neg (by have := HP.out; omega), if_neg (by have := HP.out; omega), if_neg (by have := HP.out; omega), cFin_no (by rw [HK3.out, HZ.out])])
  have HSx := hid (HSl.out.grn locE_len HG.out)
  clear hz
  go_wp2_with fail
  all_goals
   go_ret
   rw [HR.out]
  ·exact ⟨rfl, ⟨_, _, _, _, _, _, _, _, _, _, _, _, _, _, Cd.tail3 HD.out HN.out (HSx.out.tail1 (by assumption))⟩, (HG.out.setCell _ _).setCell _ _⟩
  ·exact ⟨rfl, ⟨_, _, _, _, _, _, _, _, _, _, _, _, _, _, Cd.tail3 HD.out HN.out (HSx.out.tail2 (by assumption))⟩, (HG.out.setCell _ _).setCell _ _⟩
 ·have hzb : (z0 != 0) = true := by simpa using hz
  have HZ := hid hz
  obtain ⟨⟨q1, q2, q3⟩, hqq⟩ : ∃ q, q = (logicN t c b (imgN sz s.loaded) at_).1 := ⟨_, rfl⟩
  have HR := hid (show cPlain K s = ({ cStore s at_ (q1, q2, q3) with pl := rest, part := 0 }, false) by rw [hqq, ← HK.out.lg, ← HK.out.img]; unfold cPlain; rw [HPl.out]; dsimp only; rw [if_neg (by have := HP.out; omega), if_neg (by have := HP.out; omega), if_neg (by have := HP.out; omega), cFin_yes HK3.out HZ.out])
  clear hz
  go_wp2_with fail
  refine (clog_any (HD.out.of (by (show Ext _ _; repeat first | (with_reducible first | (refine xH ?_; assumption) | exact xR _ | refine xX ?_ _ | refine xA ?_ _) | refine xD ?_ | refine xN ?_ _ | exact xR _))) at_ sz HK.out.size HK.out.le HIn.out hat hb3 (HS.out _ HG.out)).mono ?_
  rintro e w' ⟨rfl, r8, rfl⟩
  rw [show (s).loaded = s.loaded from rfl, ← hqq]
  go_wp2_with fail
  refine (cstore_any (HD.out.of (by (show Ext _ _; repeat first | (with_reducible first | (refine xH ?_; assumption) | exact xR _ | refine xX ?_ _ | refine xA ?_ _) | refine xD ?_ | refine xN ?_ _ | exact xR _))) at_ q1 q2 q3 hb1 hb2).mono ?_
  rintro e V ⟨rfl, ⟨aa', ac', ra', rc', hcd⟩, hgv⟩
  have HGx := hid (show Grn g w V from (HG.out.trans (Grn.of_ext (by (show Ext _ _; repeat first | (with_reducible first | (refine xH ?_; assumption) | exact xR _ | refine xX ?_ _ | refine xA ?_ _) | refine xD ?_ | refine xN ?_ _ | exact xR _)))).trans hgv)
  have HSx := hid (HSl.out.grn locE_len HGx.out)
  have m3 := hcd.blk.2.2 3 _ rfl
  have m7 := hcd.blk.2.2 7 _ rfl
  have g3 := hcd.blk.2.1 3
  have g7 := hcd.blk.2.1 7
  have mg := hcd.blk.1
  rw [show (cStore s at_ (q1, q2, q3)).pl = at_ :: rest from HPl.out, List.length_cons, ← HN.out] at m3
  have HX := hid hcd
  clear hcd hgv hqq l3 l7 l11 f3 f7 f8
  go_wp2_with fail
  all_goals
   go_ret
   rw [HR.out]
  ·exact ⟨rfl, ⟨_, _, _, _, _, _, _, _, _, _, _, _, _, _, Cd.tail3 HX.out HN.out (HSx.out.tail1 (by assumption))⟩, (HGx.out.setCell _ _).setCell _ _⟩
  ·exact ⟨rfl, ⟨_, _, _, _, _, _, _, _, _, _, _, _, _, _, Cd.tail3 HX.out HN.out (HSx.out.tail2 (by assumption))⟩, (HGx.out.setCell _ _).setCell _ _⟩
set_option maxRecDepth 100000 in
set_option maxHeartbeats 2000000 in
theorem plain1_any [LoC] (K : RK) {t c b : Int} {sz : Nat} (hKA : KAt K t c b sz) {w : World} {g : Nat} {s : CS} {pa sa ta la aa ra fa : Option Addr} {pc sc tc lc ac rc fc : Nat} (h : Cd t c b w g s pa sa ta la aa ra fa pc sc tc lc ac rc fc)
 (hb1 : s.acts.length ≤ 100000) (hb2 : s.stored.length ≤ 100000) (hb3 : s.loaded.length ≤ 100000) (hs : ∀ w', Grn g w w' → Szs w') (at_ : Nat) (rest : List Nat) (hpl : s.pl = at_ :: rest) (hat : at_ ≤ 100000) (hin : ∀ f ∈ s.loaded, f.1 < sz ∧ WdOk f.2)
 (k p' p0 : Nat) (x y z x0 y0 z0 : Int) (hk1 : s.loaded.length = k + 1) (hk2 : s.loaded[k]? = some (p', (x, y, z))) (hk3 : s.loaded[0]? = some (p0, (x0, y0, z0))) (hp : s.part = 1) :
 Calls Tryd.prog 98 #[.pointer (some ⟨g, 0, none⟩)] w fun e w' => e = .returned (.bool (cPlain K s).2) ∧ Cx t c b w' g (cPlain K s).1 ∧ Grn g w w' := by
 have HS := hid hs
 have HK := hid hKA
 have HIn := hid hin
 have HC := hid h
 have HPl := hid hpl
 have lg := h.blk.1
 have l3 := h.blk.2.2 3 _ rfl
 have l7 := h.blk.2.2 7 _ rfl
 have l11 := h.blk.2.2 11 _ rfl
 have f3 := h.blk.2.1 3
 have f7 := h.blk.2.1 7
 have f8 := h.blk.2.1 8
 obtain ⟨n, hn⟩ : ∃ n, n = rest.length := ⟨_, rfl⟩
 have HSl := hid (show Sn w g 1 locE (.slice pa (n + 1) pc) (at_ :: rest) by have := h.pl; rw [hpl] at this; rw [hn]; exact this)
 obtain ⟨hq, b0, o0, hab, hb0, hc0⟩ := Sl.at HSl.out.1 (i := 0) (x := at_) rfl
 have k0 := hc0 0 (by omega)
 simp [locE] at k0
 rw [hpl] at l3
 rw [List.length_cons, ← hn] at l3
 have hni : (0 : Int) < (n : Int) + 1 := by omega
 obtain ⟨hq2, bF, oF, habF, hbF, hcF⟩ := Sl.at h.loaded.1 hk3
 have v0 := hcF 0 (by omega)
 have v1 := hcF 1 (by omega)
 have v2 := hcF 2 (by omega)
 have v3 := hcF 3 (by omega)
 simp [fdE] at v0 v1 v2 v3
 rw [hk1] at l11
 have hki : (0 : Int) < (k : Int) + 1 := by omega
 have HN := hid hn
 have HK1 := hid hk1
 have HK2 := hid hk2
 have HK3 := hid hk3
 have HWz := hid (hin _ (List.mem_of_getElem? hk2)).2
 have HW0 := hid (hin _ (List.mem_of_getElem? hk3)).2
 have HFN := hid (fun K' : RK => cFin_no (K := K') (s := s) (at_ := at_) (rest := rest) (p0 := p0) (x0 := x0) (y0 := y0))
 subst hab habF
 clear hq hq2 hc0 hcF hn h hin hKA hs hk1 hk2 hk3 hpl
 have l8 := HC.out.blk.2.2 8 _ rfl
 rw [hp] at l7
 have HP := hid hp
 clear hp
 go_enter Tryd.func98, Tryd.ntmps98
 go_wp2_with fail
 refine (clast_any HC.out k p' x y z HK1.out HK2.out).mono ?_
 rintro e w' ⟨rfl, r1, rfl⟩
 go_wp2_with fail
 refine (cwho_any (HC.out.of (by (show Ext _ _; repeat first | (with_reducible first | (refine xH ?_; assumption) | exact xR _ | refine xX ?_ _ | refine xA ?_ _) | refine xD ?_ | refine xN ?_ _ | exact xR _))) x y z HWz.out.2.2.1 HWz.out.2.2.2 (HS.out _ (Grn.of_ext (by (show Ext _ _; repeat first | (with_reducible first | (refine xH ?_; assumption) | exact xR _ | refine xX ?_ _ | refine xA ?_ _) | refine xD ?_ | refine xN ?_ _ | exact xR _))))).mono ?_
 rintro e w' ⟨rfl, r2, rfl⟩
 have HWho := hid (HK.out.who x y z)
 have hpb := (HK.out.pb (whoN z).1).1
 have HLast := hid (show cLast s = (x, y, z) by unfold cLast; rw [List.getLast?_eq_getElem?, HK1.out, Nat.add_sub_cancel, HK2.out])
 cases hok : cwB z (whoN z).1 (placeN t c b (whoN z).1).1
 ·have HOk := hid hok
  have HD := hid (HC.out.of (show Ext w (ext (ext w r1) r2) by (show Ext _ _; repeat first | (with_reducible first | (refine xH ?_; assumption) | exact xR _ | refine xX ?_ _ | refine xA ?_ _) | refine xD ?_ | refine xN ?_ _ | exact xR _)))
  have HG := hid (show Grn g w (ext (ext w r1) r2) from Grn.of_ext (by (show Ext _ _; repeat first | (with_reducible first | (refine xH ?_; assumption) | exact xR _ | refine xX ?_ _ | refine xA ?_ _) | refine xD ?_ | refine xN ?_ _ | exact xR _)))
  clear hok hpb
  go_upto_region 24 with fail
  by_cases hz : z0 = 0
  ·have hzb : (z0 != 0) = false := by simpa using hz
   have HZ := hid hz
   have HR := hid (show cPlain K s = ({ s with pl := rest, part := 0 }, false) by unfold cPlain; rw [HPl.out]; dsimp only; rw [if_neg (by have := HP.out; omega), if_pos HP.out, HLast.out, if_neg (by rw [HWho.out, HOk.out]; decide), cFin_no (by rw [HK3.out, HZ.out])])
   have HSx := hid (HSl.out.grn locE_len HG.out)
   clear hz
   go_wp2_with fail
   all_goals
    go_ret
    rw [HR.out]
   ·exact ⟨rfl, ⟨_, _, _, _, _, _, _, _, _, _, _, _, _, _, Cd.tail3 HD.out HN.out (HSx.out.tail1 (by assumption))⟩, (HG.out.setCell _ _).setCell _ _⟩
   ·exact ⟨rfl, ⟨_, _, _, _, _, _, _, _, _, _, _, _, _, _, Cd.tail3 HD.out HN.out (HSx.out.tail2 (by assumption))⟩, (HG.out.setCell _ _).setCell _ _⟩
  ·have hzb : (z0 != 0) = true := by simpa using hz
   have HZ := hid hz
   obtain ⟨⟨q1, q2, q3⟩, hqq⟩ : ∃ q, q = (logicN t c b (imgN sz s.loaded) at_).1 := ⟨_, rfl⟩
   have HR := hid (show cPlain K s = ({ cStore s at_ (q1, q2, q3) with pl := rest, part := 0 }, false) by rw [hqq, ← HK.out.lg, ← HK.out.img]; unfold cPlain; rw [HPl.out]; dsimp only; rw [if_neg (by have := HP.out; omega), if_pos HP.out, HLast.out, if_neg (by rw [HWho.out, HOk.out]; decide), cFin_yes HK3.out HZ.out])
   clear hz
   go_wp2_with fail
   refine (clog_any (HD.out.of (by (show Ext _ _; repeat first | (with_reducible first | (refine xH ?_; assumption) | exact xR _ | refine xX ?_ _ | refine xA ?_ _) | refine xD ?_ | refine xN ?_ _ | exact xR _))) at_ sz HK.out.size HK.out.le HIn.out hat hb3 (HS.out _ HG.out)).mono ?_
   rintro e w' ⟨rfl, r8, rfl⟩
   rw [show (s).loaded = s.loaded from rfl, ← hqq]
   go_wp2_with fail
   refine (cstore_any (HD.out.of (by (show Ext _ _; repeat first | (with_reducible first | (refine xH ?_; assumption) | exact xR _ | refine xX ?_ _ | refine xA ?_ _) | refine xD ?_ | refine xN ?_ _ | exact xR _))) at_ q1 q2 q3 hb1 hb2).mono ?_
   rintro e V ⟨rfl, ⟨aa', ac', ra', rc', hcd⟩, hgv⟩
   have HGx := hid (show Grn g w V from (HG.out.trans (Grn.of_ext (by (show Ext _ _; repeat first | (with_reducible first | (refine xH ?_; assumption) | exact xR _ | refine xX ?_ _ | refine xA ?_ _) | refine xD ?_ | refine xN ?_ _ | exact xR _)))).trans hgv)
   have HSx := hid (HSl.out.grn locE_len HGx.out)
   have m3 := hcd.blk.2.2 3 _ rfl
   have m7 := hcd.blk.2.2 7 _ rfl
   have g3 := hcd.blk.2.1 3
   have g7 := hcd.blk.2.1 7
   have mg := hcd.blk.1
   rw [show (cStore s at_ (q1, q2, q3)).pl = at_ :: rest from HPl.out, List.length_cons, ← HN.out] at m3
   have HX := hid hcd
   clear hcd hgv hqq l3 l7 l11 f3 f7 f8
   go_wp2_with fail
   all_goals
    go_ret
    rw [HR.out]
   ·exact ⟨rfl, ⟨_, _, _, _, _, _, _, _, _, _, _, _, _, _, Cd.tail3 HX.out HN.out (HSx.out.tail1 (by assumption))⟩, (HGx.out.setCell _ _).setCell _ _⟩
   ·exact ⟨rfl, ⟨_, _, _, _, _, _, _, _, _, _, _, _, _, _, Cd.tail3 HX.out HN.out (HSx.out.tail2 (by assumption))⟩, (HGx.out.setCell _ _).setCell _ _⟩
 ·have HOk := hid hok
  have hf0 : 0 ≤ (placeN t c b (whoN z).1).1 := by unfold cwB at hok; simp at hok; exact hok.2.2
  obtain ⟨f, hf⟩ := Int.eq_ofNat_of_zero_le hf0
  have HF := hid hf
  have hf5 : f ≤ 50000 := by omega
  have HR := hid (show cPlain K s = ({ s with loads := [f, f + 1], part := 2 }, false) by
   unfold cPlain; rw [HPl.out]; dsimp only
   rw [if_neg (by have := HP.out; omega), if_pos HP.out, HLast.out, if_pos (by rw [HWho.out, HOk.out])]
   have : (cPl K (x, y, z)).1.toNat = f := by unfold cPl; rw [HK.out.place, HF.out, Int.toNat_natCast]
   rw [this])
  have HD := hid (HC.out.of (show Ext w (ext (ext w r1) r2) by (show Ext _ _; repeat first | (with_reducible first | (refine xH ?_; assumption) | exact xR _ | refine xX ?_ _ | refine xA ?_ _) | refine xD ?_ | refine xN ?_ _ | exact xR _)))
  rw [hf]
  clear hok hf0 hpb hf
  go_wp2_with fail
  go_ret
  rw [HR.out]
  have HG := hid (show Grn g w _ from (((Grn.of_ext (show Ext w (ext (ext w r1) r2) by (show Ext _ _; repeat first | (with_reducible first | (refine xH ?_; assumption) | exact xR _ | refine xX ?_ _ | refine xA ?_ _) | refine xD ?_ | refine xN ?_ _ | exact xR _))).setCell 8 (.slice (some ⟨w.heap.size + r1.new.size + r2.new.size, 0, none⟩) 2 2)).setCell 7 (.int .i64 2)).alloc (.cells #[.int .i64 f, .int .i64 (f + 1)] 44))
  have HGx := hid (show Grn g (ext (ext w r1) r2) _ from (((Grn.refl).setCell 8 (.slice (some ⟨w.heap.size + r1.new.size + r2.new.size, 0, none⟩) 2 2)).setCell 7 (.int .i64 2)).alloc (.cells #[.int .i64 f, .int .i64 (f + 1)] 44))
  have HE := HD.out
  refine ⟨rfl, ⟨some ⟨b0, o0, none⟩, sa, ta, some ⟨w.heap.size + r1.new.size + r2.new.size, 0, none⟩, aa, ra, some ⟨bF, oF, none⟩, pc, sc, tc, 2, ac, rc, fc, ?_⟩, HG.out⟩
  refine ⟨((HE.blk.set 8 (by simp) (.slice (some ⟨w.heap.size + r1.new.size + r2.new.size, 0, none⟩) 2 2)).set 7 (by simp) (.int .i64 2)).alloc _, HE.pl.grn locE_len HGx.out, HE.sl.grn locE_len HGx.out, HE.th.grn locE_len HGx.out, ⟨?_, fun _ a n c he => ?_⟩, HE.acts.grn acE_len HGx.out, HE.stored.grn locE_len HGx.out, HE.loaded.grn fdE_len HGx.out, fun _ => rfl, Nat.le_trans HE.big HGx.out.size⟩
  ·exact Sl.of_own (base := 0) (e := 44) locE_len (by
    have := Own.made (w := ((ext (ext w r1) r2).setCell ⟨g, 8, none⟩ (.slice (some ⟨w.heap.size + r1.new.size + r2.new.size, 0, none⟩) 2 2)).setCell ⟨g, 7, none⟩ (.int .i64 2)) (base := 0) (e := 44) (size := 1) (enc := locE) #[.int .i64 f, .int .i64 (f + 1)] [f, f + 1] 2 rfl (Nat.zero_le _) (by unfold maxLen; omega) (by simp [locE]) rfl
    simpa using this)
  ·simp only [Value.slice.injEq, Option.some.injEq] at he
   have hbg := HE.big
   simp only [size_ext] at hbg
   rw [← he.1]; dsimp only; exact .inr (by omega)
set_option maxRecDepth 100000 in
set_option maxHeartbeats 2000000 in
theorem plainN_any [LoC] (K : RK) {t c b : Int} {w : World} {g : Nat} {s : CS} {pa sa ta la aa ra fa : Option Addr} {pc sc tc lc ac rc fc : Nat} (h : Cd t c b w g s pa sa ta la aa ra fa pc sc tc lc ac rc fc) (hpl : s.pl = []) :
 Calls Tryd.prog 98 #[.pointer (some ⟨g, 0, none⟩)] w fun e w' => e = .returned (.bool (cPlain K s).2) ∧ Cx t c b w' g (cPlain K s).1 ∧ Grn g w w' := by
 have HC := hid h
 have lg := h.blk.1
 have l3 := h.blk.2.2 3 _ rfl
 rw [hpl] at l3
 have HR := hid (show cPlain K s = (s, true) by unfold cPlain; rw [hpl])
 clear h hpl
 go_enter Tryd.func98, Tryd.ntmps98
 go_wp2_with fail
 go_ret
 rw [HR.out]
 exact ⟨rfl, ⟨_, _, _, _, _, _, _, _, _, _, _, _, _, _, HC.out⟩, Grn.refl⟩
set_option maxRecDepth 100000 in
set_option maxHeartbeats 2000000 in
theorem plain0_any [LoC] (K : RK) {t c b : Int} {w : World} {g : Nat} {s : CS} {pa sa ta la aa ra fa : Option Addr} {pc sc tc lc ac rc fc : Nat} (h : Cd t c b w g s pa sa ta la aa ra fa pc sc tc lc ac rc fc)
 (at_ : Nat) (rest : List Nat) (hpl : s.pl = at_ :: rest) (hp : s.part = 0) :
 Calls Tryd.prog 98 #[.pointer (some ⟨g, 0, none⟩)] w fun e w' => e = .returned (.bool (cPlain K s).2) ∧ Cx t c b w' g (cPlain K s).1 ∧ Grn g w w' := by
 have HH := hid h
 have lg := h.blk.1
 have l3 := h.blk.2.2 3 _ rfl
 have l7 := h.blk.2.2 7 _ rfl
 have l8 := h.blk.2.2 8 _ rfl
 have l11 := h.blk.2.2 11 _ rfl
 have f7 := h.blk.2.1 7
 have f8 := h.blk.2.1 8
 have f11 := h.blk.2.1 11
 obtain ⟨n, hn⟩ : ∃ n, n = rest.length := ⟨_, rfl⟩
 have HSl := hid (show Sn w g 1 locE (.slice pa (n + 1) pc) (at_ :: rest) by have := h.pl; rw [hpl] at this; rw [hn]; exact this)
 obtain ⟨hq, b0, o0, hab, hb0, hc0⟩ := Sl.at HSl.out.1 (i := 0) (x := at_) rfl
 have k0 := hc0 0 (by omega)
 simp [locE] at k0
 rw [hpl] at l3
 rw [List.length_cons, ← hn] at l3
 rw [hp] at l7
 have hni : (0 : Int) < (n : Int) + 1 := by omega
 have HR := hid (show cPlain K s = ({ s with loaded := [], loads := [at_], part := 1 }, false) by unfold cPlain; rw [hpl]; dsimp only; rw [if_pos hp])
 subst hab
 clear hq hc0 hn h hpl hp
 go_enter Tryd.func98, Tryd.ntmps98
 go_wp2_with fail
 go_ret
 have HE := HH.out
 have HG := hid (show Grn g w _ from ((((Grn.refl (g := g) (w := w)).setCell 11 (.slice none 0 0)).setCell 8 (.slice (some ⟨w.heap.size, 0, none⟩) 1 1)).setCell 7 (.int .i64 1)).alloc (.cells #[.int .i64 at_] 44))
 rw [HR.out]
 refine ⟨rfl, ⟨some ⟨b0, o0, none⟩, sa, ta, some ⟨w.heap.size, 0, none⟩, aa, ra, none, pc, sc, tc, 1, ac, rc, 0, ?_⟩, HG.out⟩
 refine ⟨(((HE.blk.set 11 (by simp) (.slice none 0 0)).set 8 (by simp) (.slice (some ⟨w.heap.size, 0, none⟩) 1 1)).set 7 (by simp) (.int .i64 1)).alloc _, HE.pl.grn locE_len HG.out, HE.sl.grn locE_len HG.out, HE.th.grn locE_len HG.out, ⟨sl_of_blk1 locE_len (Blk.new _ _ rfl (by simp)), fun _ a n c he => ?_⟩, HE.acts.grn acE_len HG.out, HE.stored.grn locE_len HG.out, Sn.nil, fun _ => rfl, Nat.le_trans HE.big HG.out.size⟩
 simp only [Value.slice.injEq, Option.some.injEq] at he
 have hbg := HE.big
 rw [← he.1]; dsimp only; omega
def enL (f i : Nat) : List Nat := (List.range i).map (fun k => f + 2 + k)
theorem enL_succ (f i : Nat) : enL f (i + 1) = enL f i ++ [f + 2 + i] := by unfold enL; rw [List.range_succ, List.map_append]; rfl
theorem enL_len (f i : Nat) : (enL f i).length = i := by simp [enL]
theorem Cd.gro [LoC] {t c b : Int} {w w' : World} {g : Nat} {s : CS} {pa sa ta la aa ra fa : Option Addr} {pc sc tc lc ac rc fc : Nat} {row : Option Nat} (h : Cd t c b w g s pa sa ta la aa ra fa pc sc tc lc ac rc fc) (k : w.grownBy w' row) (hb : row ≠ some g)
 (hpl : Sn w' g 1 locE (.slice pa s.pl.length pc) s.pl) (hsl : Sn w' g 1 locE (.slice sa s.sl.length sc) s.sl) (hth : Sn w' g 1 locE (.slice ta s.th.length tc) s.th) (hlo : Sn w' g 1 locE (.slice la s.loads.length lc) s.loads)
 (hac : Sn w' g 8 acE (.slice aa s.acts.length ac) s.acts) (hst : Sn w' g 1 locE (.slice ra s.stored.length rc) s.stored) (hld : Sn w' g 4 fdE (.slice fa s.loaded.length fc) s.loaded) : Cd t c b w' g s pa sa ta la aa ra fa pc sc tc lc ac rc fc :=
 ⟨h.blk.gro k hb, hpl, hsl, hth, hlo, hac, hst, hld, h.tight, Nat.le_trans h.big k.size⟩
set_option maxRecDepth 100000 in
set_option maxHeartbeats 2000000 in
theorem plain2_any [LoC] (K : RK) {t c b : Int} {sz : Nat} (hKA : KAt K t c b sz) {w : World} {g : Nat} {s : CS} {pa sa ta la aa ra fa : Option Addr} {pc sc tc lc ac rc fc : Nat} (h : Cd t c b w g s pa sa ta la aa ra fa pc sc tc lc ac rc fc)
 (hb1 : s.acts.length ≤ 100000) (hb2 : s.stored.length ≤ 100000) (hb3 : s.loaded.length ≤ 100000) (hs : ∀ w', Grn g w w' → Szs w') (at_ : Nat) (rest : List Nat) (hpl : s.pl = at_ :: rest) (hat : at_ ≤ 100000) (hin : ∀ f ∈ s.loaded, f.1 < sz ∧ WdOk f.2)
 (k p' p0 : Nat) (x y z x0 y0 z0 : Int) (hk1 : s.loaded.length = k + 1) (hk2 : s.loaded[k]? = some (p', (x, y, z))) (hk3 : s.loaded[0]? = some (p0, (x0, y0, z0))) (hp : s.part = 2) (hlo : s.loads = []) :
 Calls Tryd.prog 98 #[.pointer (some ⟨g, 0, none⟩)] w fun e w' => e = .returned (.bool (cPlain K s).2) ∧ Cx t c b w' g (cPlain K s).1 ∧ Grn g w w' := by
 have HS := hid hs
 have HK := hid hKA
 have HIn := hid hin
 have HC := hid h
 have HPl := hid hpl
 have lg := h.blk.1
 have l3 := h.blk.2.2 3 _ rfl
 have l7 := h.blk.2.2 7 _ rfl
 have l11 := h.blk.2.2 11 _ rfl
 have f3 := h.blk.2.1 3
 have f7 := h.blk.2.1 7
 have f8 := h.blk.2.1 8
 obtain ⟨n, hn⟩ : ∃ n, n = rest.length := ⟨_, rfl⟩
 have HSl := hid (show Sn w g 1 locE (.slice pa (n + 1) pc) (at_ :: rest) by have := h.pl; rw [hpl] at this; rw [hn]; exact this)
 obtain ⟨hq, b0, o0, hab, hb0, hc0⟩ := Sl.at HSl.out.1 (i := 0) (x := at_) rfl
 have k0 := hc0 0 (by omega)
 simp [locE] at k0
 rw [hpl] at l3
 rw [List.length_cons, ← hn] at l3
 have hni : (0 : Int) < (n : Int) + 1 := by omega
 obtain ⟨hq2, bF, oF, habF, hbF, hcF⟩ := Sl.at h.loaded.1 hk3
 have v0 := hcF 0 (by omega)
 have v1 := hcF 1 (by omega)
 have v2 := hcF 2 (by omega)
 have v3 := hcF 3 (by omega)
 simp [fdE] at v0 v1 v2 v3
 rw [hk1] at l11
 have hki : (0 : Int) < (k : Int) + 1 := by omega
 have HN := hid hn
 have HK1 := hid hk1
 have HK2 := hid hk2
 have HK3 := hid hk3
 have HWz := hid (hin _ (List.mem_of_getElem? hk2)).2
 have HW0 := hid (hin _ (List.mem_of_getElem? hk3)).2
 have HFN := hid (fun K' : RK => cFin_no (K := K') (s := s) (at_ := at_) (rest := rest) (p0 := p0) (x0 := x0) (y0 := y0))
 subst hab habF
 clear hq hq2 hc0 hcF hn h hin hKA hs hk1 hk2 hk3 hpl
 have l8 := HC.out.blk.2.2 8 _ rfl
 have hlc : lc = 0 := by have := HC.out.tight (.inr hp); rw [hlo] at this; exact this
 rw [hlo] at l8
 rw [hp] at l7
 have HP := hid hp
 have HLo := hid hlo
 subst hlc
 clear hp hlo
 go_enter Tryd.func98, Tryd.ntmps98
 go_wp2_with fail
 refine (cwho_any HC.out x0 y0 z0 HW0.out.2.2.1 HW0.out.2.2.2 (HS.out _ Grn.refl)).mono ?_
 rintro e w' ⟨rfl, r1, rfl⟩
 go_wp2_with fail
 have HD := hid ((HC.out.of (show Ext w (ext w r1) by (show Ext _ _; repeat first | (with_reducible first | (refine xH ?_; assumption) | exact xR _ | refine xX ?_ _ | refine xA ?_ _) | refine xD ?_ | refine xN ?_ _ | exact xR _))).part7)
 have HG := hid (show Grn g w _ from (Grn.of_ext (show Ext w (ext w r1) by (show Ext _ _; repeat first | (with_reducible first | (refine xH ?_; assumption) | exact xR _ | refine xX ?_ _ | refine xA ?_ _) | refine xD ?_ | refine xN ?_ _ | exact xR _))).setCell 7 (.int .i64 3))
 refine (clast_any HD.out k p' x y z HK1.out HK2.out).mono ?_
 rintro e w' ⟨rfl, r2, rfl⟩
 obtain ⟨hpb1, hpb2⟩ := HK.out.pb (whoN z0).1
 have HLast := hid (show cLast s = (x, y, z) by unfold cLast; rw [List.getLast?_eq_getElem?, HK1.out, Nat.add_sub_cancel, HK2.out])
 have HHead := hid (show cHead s = (x0, y0, z0) by
  unfold cHead
  cases hl : s.loaded with
  | nil => have := HK3.out; rw [hl] at this; cases this
  | cons f r => have := HK3.out; rw [hl] at this; simp at this; rw [this])
 have HPl2 := hid (show cPl K (x0, y0, z0) = placeN t c b (whoN z0).1 by unfold cPl; rw [HK.out.place])
 obtain ⟨most, hmo⟩ : ∃ q, q = (placeN t c b (whoN z0).1).2 := ⟨_, rfl⟩
 obtain ⟨from_, hfr⟩ : ∃ q, q = (placeN t c b (whoN z0).1).1 := ⟨_, rfl⟩
 rw [← hmo] at hpb2 ⊢
 rw [← hfr] at hpb1 ⊢
 have HMo := hid hmo
 have HFr := hid hfr
 generalize hU : ext ((ext w r1).setCell _ _) r2 = U at *
 have HDU := hid (show Cd t c b U g { s with part := 3 } (some ⟨b0, o0, none⟩) sa ta la aa ra (some ⟨bF, oF, none⟩) pc sc tc 0 ac rc fc by rw [← hU]; exact HD.out.of (by (show Ext _ _; repeat first | (with_reducible first | (refine xH ?_; assumption) | exact xR _ | refine xX ?_ _ | refine xA ?_ _) | refine xD ?_ | refine xN ?_ _ | exact xR _)))
 have HGU := hid (show Grn g w U by rw [← hU]; exact HG.out.trans (Grn.of_ext (by (show Ext _ _; repeat first | (with_reducible first | (refine xH ?_; assumption) | exact xR _ | refine xX ?_ _ | refine xA ?_ _) | refine xD ?_ | refine xN ?_ _ | exact xR _))))
 have lgU := HDU.out.blk.1
 have v3U := HGU.out.cell (by have := HC.out.loaded.2 (fun e => by have := HK1.out; rw [e] at this; cases this) _ _ _ rfl; dsimp only at this; omega) v3
 have k0U := HGU.out.cell (by have := HC.out.pl.2 (by rw [HPl.out]; simp) _ _ _ rfl; dsimp only at this; omega) k0
 have n3 := HDU.out.blk.2.2 3 _ rfl
 have n7 := HDU.out.blk.2.2 7 _ rfl
 have n8 := HDU.out.blk.2.2 8 _ rfl
 have n11 := HDU.out.blk.2.2 11 _ rfl
 have m3 := HDU.out.blk.2.1 3
 have m7 := HDU.out.blk.2.1 7
 have m8 := HDU.out.blk.2.1 8
 dsimp only at n3 n7 n8 n11
 rw [HPl.out, List.length_cons, ← HN.out] at n3
 rw [HLo.out] at n8
 rw [HK1.out] at n11
 clear hU hmo hfr HD HG l3 l7 l8 l11 f3 f7 f8
 have hfd := field_val x y z
 by_cases hy : 1 ≤ x ∧ x ≤ most
 ·obtain ⟨hy1, hy2⟩ := hy
  have hd1 : decide (1 ≤ x) = true := decide_eq_true hy1
  have hd2 : decide (x ≤ most) = true := decide_eq_true hy2
  obtain ⟨m, rfl⟩ := Int.eq_ofNat_of_zero_le (show 0 ≤ x by omega)
  have hm32 : m ≤ 32 := by omega
  have hfr0 : 0 ≤ from_ := by rw [HFr.out]; exact place_pos (by rw [← HMo.out]; omega)
  obtain ⟨f, hf⟩ := Int.eq_ofNat_of_zero_le hfr0
  have HF := hid hf
  rw [hf] at hpb1 ⊢
  have hf5 : f ≤ 50000 := by omega
  have hHR : cPlain K s = ({ s with part := 3, loads := enL f (3 * m) }, false) := by
   rw [cPlain2_yes HPl.out HP.out (by rw [HLast.out, HHead.out, HPl2.out, ← HMo.out]; exact ⟨hy1, hy2⟩), HLast.out, HHead.out, HPl2.out, ← HFr.out, HF.out, HLo.out]
   rfl
  have HR := hid hHR
  have hm1 : 1 ≤ m := by omega
  clear hf hfr0 hpb1 hHR hy1 hy2
  go_wp2_with fail
  go_loopw [92] (fun v wr => ∃ i : Nat, i ≤ 3 * m ∧ v = .int .i64 i ∧ ∃ la' lc', Hid (Blk wr g (cdL t c b (some ⟨b0, o0, none⟩) sa ta la' aa ra (some ⟨bF, oF, none⟩) pc sc tc lc' ac rc fc { s with part := 3, loads := enL f i })) ∧ Hid (Grn g U wr) ∧ Hid (i = 0 → la' = la ∧ lc' = 0) ∧ Hid (0 < i → Lo wr U.heap.size (.slice la' i lc') (enL f i))) (fun v _ => 3 * m - (intOf v).toNat)
  case atStart => exact ⟨0, by omega, rfl, la, 0, hid (by have := HDU.out.blk; simpa [enL, HLo.out] using this), hid Grn.refl, hid (fun _ => ⟨rfl, rfl⟩), hid (fun h => absurd h (by omega))⟩
  case round =>
  obtain ⟨i, hi, rfl, la', lc', HB, HGr, HZr, HOr⟩ := hrel
  have rg := HB.out.1
  have r8 := HB.out.2.2 8 _ rfl
  have r8f := HB.out.2.1 8
  dsimp only at r8
  rw [enL_len] at r8
  have hUr := HGr.out.size
  by_cases hin : i < 3 * m
  ·have hji : (i : Int) < 3 * (m : Int) := by omega
   have HSc := hid (enL_succ f i)
   have HEl := hid (enL_len f i)
   by_cases hi0 : i = 0
   ·obtain ⟨hz1, hz2⟩ := HZr.out hi0
    subst hz1 hz2
    have HI0 := hid hi0
    subst hi0
    go_wp2_with (at_builtin; refine lo_clip rfl _ _ rfl rfl (l := []) ⟨_, _, rfl, ⟨by simp, by simp⟩, fun hne => absurd rfl hne⟩ _ 1 1 rfl [f + 2 + 0] rfl (by omega) (news_new rfl _ (by (first | rfl | (simp; done)))) (by omega) ?_; rintro v9 r9 hv9; obtain ⟨a9, c9, hs9⟩ := Own.shape hv9; subst hs9; have HV9 := hid hv9; clear hv9)
    go_roundw
    case rel => exact ⟨0 + 1, by omega, by go_num, a9, c9, hid (by rw [HSc.out]; exact (((HB.out.alloc _).ext _).set 8 (by simp) _)), hid ((HGr.out.trans (Grn.of_ext (by (show Ext _ _; repeat first | (with_reducible first | (refine xH ?_; assumption) | exact xR _ | refine xX ?_ _ | refine xA ?_ _) | refine xD ?_ | refine xN ?_ _ | exact xR _)))).setCell _ _), hid (fun h => absurd h (by omega)), hid (fun _ => by rw [HSc.out]; exact (Own.mono HV9.out (by (first | exact Nat.le_refl _ | (simp; done) | (simp; omega)))).under lgU _)⟩
    case measure => simp [intOf]; omega
   ·have hip : 0 < i := by omega
    have HO := hid (HOr.out hip)
    go_wp2_with (at_builtin; refine lo_append_gb rfl _ _ rfl (by (first | exact Nat.le_refl _ | (simp; done) | (simp; omega))) rfl (Own.alloc HO.out _) _ 1 1 rfl [f + 2 + i] rfl (news_new rfl _ (by (first | rfl | (simp; done)))) (by have := HEl.out; omega) ?_; rintro v9 w9 hv9 hg9 ha9; have HV9 := hid hv9; have HB9 := hid ((HB.out.alloc _).gro hg9 (HO.out.not_at lgU)); have HG9 := hid ((HGr.out.alloc _).gro hg9 HO.out.bases); obtain ⟨a9, c9, hs9⟩ := Own.shape hv9; rw [List.length_append, HEl.out] at hs9; simp only [List.length_cons, List.length_nil, Nat.zero_add] at hs9; subst hs9; clear hv9 hg9 ha9; have q0 := HB9.out.2.1 8; have q1 := HB9.out.2.2 8 _ rfl; have q2 := HB9.out.1)
    go_roundw
    case rel => exact ⟨i + 1, by omega, by go_num, a9, c9, hid (by rw [HSc.out]; have h9 := HB9.out.set 8 (by simp) (.slice a9 (i + 1) c9); have e : ({ s with part := 3, loads := enL f i ++ [f + 2 + i] } : CS).loads.length = i + 1 := (by show (enL f i ++ [_]).length = _; rw [List.length_append, HEl.out]; rfl); unfold cdL; rw [e]; exact h9), hid (HG9.out.setCell _ _), hid (fun h => absurd h (by omega)), hid (fun _ => by rw [HSc.out]; exact HV9.out.under lgU _)⟩
    case measure => simp [intOf]; omega
  ·have hji : ¬ (i : Int) < 3 * (m : Int) := by omega
   have HI := hid (show i = 3 * m by omega)
   have HO := hid (HOr.out (by omega))
   go_wp2_with fail
   go_ret
   rw [HR.out, ← HI.out]
   refine ⟨rfl, ⟨_, _, _, _, _, _, _, _, _, _, _, _, _, _, ⟨HB.out, HDU.out.pl.grn locE_len HGr.out, HDU.out.sl.grn locE_len HGr.out, HDU.out.th.grn locE_len HGr.out, ?_, HDU.out.acts.grn acE_len HGr.out, HDU.out.stored.grn locE_len HGr.out, HDU.out.loaded.grn fdE_len HGr.out, fun h0 => (by rcases h0 with h0 | h0 <;> cases h0), Nat.le_trans HDU.out.big HGr.out.size⟩⟩, HGU.out.trans HGr.out⟩
   show Sn _ g 1 locE (.slice la' (enL f i).length lc') (enL f i)
   rw [enL_len]
   exact Own.sn locE_len HO.out HDU.out.big
 ·have HD := HDU
  have HG := HGU
  have HNy := hid hy
  by_cases hy1 : 1 ≤ x
  ·have hd1 : decide (1 ≤ x) = true := decide_eq_true hy1
   have hd2 : decide (x ≤ most) = false := decide_eq_false (fun h => hy ⟨hy1, h⟩)
   clear hy
   go_upto_region 24 with fail
   by_cases hz : z0 = 0
   ·have hzb : (z0 != 0) = false := by simpa using hz
    have HZ := hid hz
    have HR := hid (show cPlain K s = ({ ({ s with part := 3 } : CS) with pl := rest, part := 0 }, false) by rw [cPlain2_no HPl.out HP.out (by rw [HLast.out, HHead.out, HPl2.out, ← HMo.out]; exact HNy.out), cFin_no (s := { s with part := 3 }) (by show s.loaded[0]? = _; rw [HK3.out, HZ.out])])
    have HSx := hid (HSl.out.grn locE_len HG.out)
    clear hz
    go_wp2_with fail
    all_goals
     go_ret
     rw [HR.out]
    ·exact ⟨rfl, ⟨_, _, _, _, _, _, _, _, _, _, _, _, _, _, Cd.tail3 HD.out HN.out (HSx.out.tail1 (by assumption))⟩, (HG.out.setCell _ _).setCell _ _⟩
    ·exact ⟨rfl, ⟨_, _, _, _, _, _, _, _, _, _, _, _, _, _, Cd.tail3 HD.out HN.out (HSx.out.tail2 (by assumption))⟩, (HG.out.setCell _ _).setCell _ _⟩
   ·have hzb : (z0 != 0) = true := by simpa using hz
    have HZ := hid hz
    obtain ⟨⟨q1, q2, q3⟩, hqq⟩ : ∃ q, q = (logicN t c b (imgN sz s.loaded) at_).1 := ⟨_, rfl⟩
    have HR := hid (show cPlain K s = ({ cStore ({ s with part := 3 } : CS) at_ (q1, q2, q3) with pl := rest, part := 0 }, false) by rw [hqq, ← HK.out.lg, ← HK.out.img]; rw [cPlain2_no HPl.out HP.out (by rw [HLast.out, HHead.out, HPl2.out, ← HMo.out]; exact HNy.out), cFin_yes (s := { s with part := 3 }) HK3.out HZ.out])
    clear hz
    go_wp2_with fail
    refine (clog_any (HD.out.of (by (show Ext _ _; repeat first | (with_reducible first | (refine xH ?_; assumption) | exact xR _ | refine xX ?_ _ | refine xA ?_ _) | refine xD ?_ | refine xN ?_ _ | exact xR _))) at_ sz HK.out.size HK.out.le HIn.out hat hb3 (HS.out _ HG.out)).mono ?_
    rintro e w' ⟨rfl, r8, rfl⟩
    rw [show (({ s with part := 3 } : CS)).loaded = s.loaded from rfl, ← hqq]
    go_wp2_with fail
    refine (cstore_any (HD.out.of (by (show Ext _ _; repeat first | (with_reducible first | (refine xH ?_; assumption) | exact xR _ | refine xX ?_ _ | refine xA ?_ _) | refine xD ?_ | refine xN ?_ _ | exact xR _))) at_ q1 q2 q3 hb1 hb2).mono ?_
    rintro e V ⟨rfl, ⟨aa', ac', ra', rc', hcd⟩, hgv⟩
    have HGx := hid (show Grn g w V from (HG.out.trans (Grn.of_ext (by (show Ext _ _; repeat first | (with_reducible first | (refine xH ?_; assumption) | exact xR _ | refine xX ?_ _ | refine xA ?_ _) | refine xD ?_ | refine xN ?_ _ | exact xR _)))).trans hgv)
    have HSx := hid (HSl.out.grn locE_len HGx.out)
    have w3 := hcd.blk.2.2 3 _ rfl
    have w7 := hcd.blk.2.2 7 _ rfl
    have g3 := hcd.blk.2.1 3
    have g7 := hcd.blk.2.1 7
    have mg := hcd.blk.1
    rw [show (cStore ({ s with part := 3 } : CS) at_ (q1, q2, q3)).pl = at_ :: rest from HPl.out, List.length_cons, ← HN.out] at w3
    have HX := hid hcd
    clear hcd hgv hqq n3 n7 n8 n11 m3 m7 m8
    go_wp2_with fail
    all_goals
     go_ret
     rw [HR.out]
    ·exact ⟨rfl, ⟨_, _, _, _, _, _, _, _, _, _, _, _, _, _, Cd.tail3 HX.out HN.out (HSx.out.tail1 (by assumption))⟩, (HGx.out.setCell _ _).setCell _ _⟩
    ·exact ⟨rfl, ⟨_, _, _, _, _, _, _, _, _, _, _, _, _, _, Cd.tail3 HX.out HN.out (HSx.out.tail2 (by assumption))⟩, (HGx.out.setCell _ _).setCell _ _⟩
  ·have hd1 : decide (1 ≤ x) = false := decide_eq_false hy1
   clear hy
   go_upto_region 24 with fail
   by_cases hz : z0 = 0
   ·have hzb : (z0 != 0) = false := by simpa using hz
    have HZ := hid hz
    have HR := hid (show cPlain K s = ({ ({ s with part := 3 } : CS) with pl := rest, part := 0 }, false) by rw [cPlain2_no HPl.out HP.out (by rw [HLast.out, HHead.out, HPl2.out, ← HMo.out]; exact HNy.out), cFin_no (s := { s with part := 3 }) (by show s.loaded[0]? = _; rw [HK3.out, HZ.out])])
    have HSx := hid (HSl.out.grn locE_len HG.out)
    clear hz
    go_wp2_with fail
    all_goals
     go_ret
     rw [HR.out]
    ·exact ⟨rfl, ⟨_, _, _, _, _, _, _, _, _, _, _, _, _, _, Cd.tail3 HD.out HN.out (HSx.out.tail1 (by assumption))⟩, (HG.out.setCell _ _).setCell _ _⟩
    ·exact ⟨rfl, ⟨_, _, _, _, _, _, _, _, _, _, _, _, _, _, Cd.tail3 HD.out HN.out (HSx.out.tail2 (by assumption))⟩, (HG.out.setCell _ _).setCell _ _⟩
   ·have hzb : (z0 != 0) = true := by simpa using hz
    have HZ := hid hz
    obtain ⟨⟨q1, q2, q3⟩, hqq⟩ : ∃ q, q = (logicN t c b (imgN sz s.loaded) at_).1 := ⟨_, rfl⟩
    have HR := hid (show cPlain K s = ({ cStore ({ s with part := 3 } : CS) at_ (q1, q2, q3) with pl := rest, part := 0 }, false) by rw [hqq, ← HK.out.lg, ← HK.out.img]; rw [cPlain2_no HPl.out HP.out (by rw [HLast.out, HHead.out, HPl2.out, ← HMo.out]; exact HNy.out), cFin_yes (s := { s with part := 3 }) HK3.out HZ.out])
    clear hz
    go_wp2_with fail
    refine (clog_any (HD.out.of (by (show Ext _ _; repeat first | (with_reducible first | (refine xH ?_; assumption) | exact xR _ | refine xX ?_ _ | refine xA ?_ _) | refine xD ?_ | refine xN ?_ _ | exact xR _))) at_ sz HK.out.size HK.out.le HIn.out hat hb3 (HS.out _ HG.out)).mono ?_
    rintro e w' ⟨rfl, r8, rfl⟩
    rw [show (({ s with part := 3 } : CS)).loaded = s.loaded from rfl, ← hqq]
    go_wp2_with fail
    refine (cstore_any (HD.out.of (by (show Ext _ _; repeat first | (with_reducible first | (refine xH ?_; assumption) | exact xR _ | refine xX ?_ _ | refine xA ?_ _) | refine xD ?_ | refine xN ?_ _ | exact xR _))) at_ q1 q2 q3 hb1 hb2).mono ?_
    rintro e V ⟨rfl, ⟨aa', ac', ra', rc', hcd⟩, hgv⟩
    have HGx := hid (show Grn g w V from (HG.out.trans (Grn.of_ext (by (show Ext _ _; repeat first | (with_reducible first | (refine xH ?_; assumption) | exact xR _ | refine xX ?_ _ | refine xA ?_ _) | refine xD ?_ | refine xN ?_ _ | exact xR _)))).trans hgv)
    have HSx := hid (HSl.out.grn locE_len HGx.out)
    have w3 := hcd.blk.2.2 3 _ rfl
    have w7 := hcd.blk.2.2 7 _ rfl
    have g3 := hcd.blk.2.1 3
    have g7 := hcd.blk.2.1 7
    have mg := hcd.blk.1
    rw [show (cStore ({ s with part := 3 } : CS) at_ (q1, q2, q3)).pl = at_ :: rest from HPl.out, List.length_cons, ← HN.out] at w3
    have HX := hid hcd
    clear hcd hgv hqq n3 n7 n8 n11 m3 m7 m8
    go_wp2_with fail
    all_goals
     go_ret
     rw [HR.out]
    ·exact ⟨rfl, ⟨_, _, _, _, _, _, _, _, _, _, _, _, _, _, Cd.tail3 HX.out HN.out (HSx.out.tail1 (by assumption))⟩, (HGx.out.setCell _ _).setCell _ _⟩
    ·exact ⟨rfl, ⟨_, _, _, _, _, _, _, _, _, _, _, _, _, _, Cd.tail3 HX.out HN.out (HSx.out.tail2 (by assumption))⟩, (HGx.out.setCell _ _).setCell _ _⟩
end Go.Proofs.YtdpbcfjfnclpiaaDoor
