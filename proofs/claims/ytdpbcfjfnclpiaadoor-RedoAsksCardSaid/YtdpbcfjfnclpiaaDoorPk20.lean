/- Walks of the recovery code's methods: logical, each, settle, quiet. Walks of the recovery code's methods: each, settle, quiet. -/
import Derived.Test.YtdpbcfjfnclpiaaDoorPk19
import Derived.Test.YtdpbcfjfnclpiaaDoorPk14
namespace Go.Proofs.YtdpbcfjfnclpiaaDoor
set_option linter.unusedSimpArgs false
set_option linter.unusedVariables false
open Go.RowKit
def imgN (sz : Nat) (ld : List (Nat × Wd)) : List Wd := ld.foldl (fun w f => w.set f.1 f.2) (List.replicate sz (0, 0, 0))
theorem fold_len : ∀ (ld : List (Nat × Wd)) (w : List Wd), (ld.foldl (fun w f => w.set f.1 f.2) w).length = w.length
 | [], _ => rfl
 | f :: r, w => by rw [List.foldl_cons, fold_len r, List.length_set]
theorem imgN_len (sz : Nat) (ld : List (Nat × Wd)) : (imgN sz ld).length = sz := by unfold imgN; rw [fold_len, List.length_replicate]
theorem imgN_succ {sz : Nat} {ld : List (Nat × Wd)} {j : Nat} {f : Nat × Wd} (h : ld[j]? = some f) : imgN sz (ld.take (j + 1)) = (imgN sz (ld.take j)).set f.1 f.2 := by
 obtain ⟨h1, h2⟩ := List.getElem?_eq_some_iff.1 h
 unfold imgN
 rw [List.take_succ_eq_append_getElem h1, h2, List.foldl_append]
 rfl
theorem fold_ok : ∀ (ld : List (Nat × Wd)) (w : List Wd), (∀ f ∈ ld, WdOk f.2) → (∀ a ∈ w, WdOk a) → ∀ a ∈ ld.foldl (fun w f => w.set f.1 f.2) w, WdOk a
 | [], _, _, h => h
 | f :: r, w, h1, h2 => by
  rw [List.foldl_cons]
  exact fold_ok r _ (fun x hx => h1 x (List.mem_cons_of_mem _ hx)) (set_ok h2 (h1 f (List.mem_cons_self ..)) _)
theorem imgN_ok {sz : Nat} {ld : List (Nat × Wd)} (h : ∀ f ∈ ld, WdOk f.2) : ∀ a ∈ imgN sz ld, WdOk a :=
 fold_ok ld _ h (fun a ha => by rw [(List.mem_replicate.1 ha).2]; exact wdOk0 0 (by omega))
set_option maxRecDepth 100000 in
set_option maxHeartbeats 2000000 in
theorem clog_any [LoC] {t c b : Int} {w : World} {g : Nat} {s : CS} {pa sa ta la aa ra fa : Option Addr} {pc sc tc lc ac rc fc : Nat} (h : Cd t c b w g s pa sa ta la aa ra fa pc sc tc lc ac rc fc)
 (p sz : Nat) (hsz : sizeN t c b = sz) (hsz1 : sz ≤ 5000) (hin : ∀ f ∈ s.loaded, f.1 < sz ∧ WdOk f.2) (hp : p ≤ 100000) (hbl : s.loaded.length ≤ 100000) (hs : Szs w) :
 Calls Tryd.prog 105 #[.pointer (some ⟨g, 0, none⟩), .int .i64 p] w
  fun e w' => e = .returned (.agg #[.int .i64 (logicN t c b (imgN sz s.loaded) p).1.1, .int .u32 (logicN t c b (imgN sz s.loaded) p).1.2.1, .int .u32 (logicN t c b (imgN sz s.loaded) p).1.2.2]) ∧ ∃ r, w' = ext w r := by
 have HS := hid hs
 have HSz := hid hsz
 have HIn := hid hin
 have HF := hid h.loaded
 have lg := h.blk.1
 have l0 := h.blk.2.2 0 _ rfl
 have l1 := h.blk.2.2 1 _ rfl
 have l2 := h.blk.2.2 2 _ rfl
 have l11 := h.blk.2.2 11 _ rfl
 have hok := imgN_ok (sz := sz) (fun f hf => (hin f hf).2)
 obtain ⟨ld, hld⟩ : ∃ ld, ld = s.loaded := ⟨_, rfl⟩
 rw [← hld] at HF HIn l11 hok hbl ⊢
 obtain ⟨N, hN⟩ : ∃ N, N = ld.length := ⟨_, rfl⟩
 rw [← hN] at l11 HF hbl
 have HN := hid hN
 have HOk := hid hok
 obtain ⟨⟨q1, q2, q3⟩, hq⟩ : ∃ q, q = (logicN t c b (imgN sz ld) p).1 := ⟨_, rfl⟩
 obtain ⟨qe, hqe⟩ : ∃ q, q = (logicN t c b (imgN sz ld) p).2 := ⟨_, rfl⟩
 have HQ := hid (show logicN t c b (imgN sz ld) p = ((q1, q2, q3), qe) by rw [hq, hqe])
 rw [← hq]
 have hmk := fun w : World => mk_words sz (by omega) w
 clear hsz hin h hld hN hok hq hqe hs
 go_enter Tryd.func105, Tryd.ntmps105
 go_wp2_with fail
 refine (size_any t c b _ (HS.out.of (by (show Ext _ _; repeat first | (with_reducible first | (refine xH ?_; assumption) | exact xR _ | refine xX ?_ _ | refine xA ?_ _) | refine xD ?_ | refine xN ?_ _ | exact xR _)))).mono ?_
 rintro e w' ⟨rfl, r1, rfl⟩
 rw [HSz.out]
 go_wp2_with fail
 generalize hU : World.alloc (ext _ r1) _ = U
 have HEU := hid (show Ext w U by rw [← hU]; (show Ext _ _; repeat first | (with_reducible first | (refine xH ?_; assumption) | exact xR _ | refine xX ?_ _ | refine xA ?_ _) | refine xD ?_ | refine xN ?_ _ | exact xR _))
 have HB4 := hid (show Blk U w.heap.size [.int .i64 0, .int .u32 0, .int .u32 0] by rw [← hU]; (show Blk _ _ _; repeat first | (with_reducible first | (refine xH ?_; assumption) | refine bD ?_ | refine bX ?_ _) | (with_reducible refine bN _ _ rfl ?_; first | with_reducible rfl | (simp; done)) | (with_reducible first | refine bA ?_ _ | assumption | apply bS) | (with_reducible refine bO ?_ ?_; first | omega | (simp; omega)) | (show List.set _ _ _ = _; exact rfl) | (show _ < List.length _; simp; done)))
 have HW0 := hid (show Ws U w.heap.size (.slice (some ⟨w.heap.size + 1 + r1.new.size, 0, none⟩) sz sz) (imgN sz (ld.take 0)) by
  rw [← hU]
  have := Ws.made sz (by omega) (ext (w.alloc (.cells #[.int .i64 0, .int .u32 0, .int .u32 0] 40)) r1) w.heap.size (by simp; omega)
  simpa [imgN] using this)
 have hgU : w.heap.size + 1 + r1.new.size < U.heap.size := by rw [← hU]; simp
 have hgw : w.heap.size < w.heap.size + 1 + r1.new.size := by omega
 generalize w.heap.size + 1 + r1.new.size = gm at *
 clear hU hmk
 go_loopw [21] (fun i wr => ∃ j : Nat, j ≤ N ∧ i = .int .i64 j ∧ Hid (Ws wr w.heap.size (.slice (some ⟨gm, 0, none⟩) sz sz) (imgN sz (ld.take j))) ∧ Hid (Grn gm U wr)) (fun i _ => N - (intOf i).toNat)
 case atStart => exact ⟨0, by omega, rfl, HW0, hid Grn.refl⟩
 case round =>
 clear HW0
 obtain ⟨j, hj, rfl, HW, HG⟩ := hrel
 have HEw := hid (HEU.out.grn HG.out (Nat.le_of_lt hgw))
 have hgr : gm < wr.heap.size := Nat.lt_of_lt_of_le hgU HG.out.size
 have HB4w := hid (HB4.out.grn HG.out (by omega))
 by_cases hjn : j < N
 ·have hd : decide (j < N) = true := decide_eq_true hjn
  have hji : (j : Int) < (N : Int) := by omega
  obtain ⟨⟨f, x1, x2, x3⟩, hf⟩ : ∃ x, ld[j]? = some x := ⟨_, List.getElem?_eq_getElem (by rw [← HN.out]; exact hjn)⟩
  have HNx := hid (show imgN sz (ld.take (j + 1)) = (imgN sz (ld.take j)).set f (x1, x2, x3) from imgN_succ hf)
  have hfz := (HIn.out _ (List.mem_of_getElem? hf)).1
  dsimp only at hfz
  obtain ⟨hq, b0, o0, hab, hb0, hc0⟩ := Sl.at HF.out.1 hf
  have k0 := hc0 0 (by omega)
  have k1 := hc0 1 (by omega)
  have k2 := hc0 2 (by omega)
  have k3 := hc0 3 (by omega)
  simp [fdE] at k0 k1 k2 k3
  have k0 := HEw.out.cell k0
  have k1 := HEw.out.cell k1
  have k2 := HEw.out.cell k2
  have k3 := HEw.out.cell k3
  obtain ⟨⟨y1, y2, y3⟩, hy⟩ : ∃ y, (imgN sz (ld.take j))[f]? = some y := ⟨_, List.getElem?_eq_getElem (by rw [imgN_len]; exact hfz)⟩
  obtain ⟨m0, m1, m2⟩ := Ws.cells HW.out hy
  have f0 := Ws.free HW.out (f * 3)
  have f1 := Ws.free HW.out (f * 3 + 1)
  have f2 := Ws.free HW.out (f * 3 + 2)
  have hfi : (f : Int) < (sz : Int) := by omega
  subst hab
  clear hq hc0 hf hy
  go_wp2_with fail
  go_roundw
  case rel => exact ⟨j + 1, by omega, by go_num, hid (by rw [HNx.out]; exact (Ws.put HW.out (by rw [imgN_len]; exact hfz) x1 x2 x3).of (by (show Ext _ _; repeat first | (with_reducible first | (refine xH ?_; assumption) | exact xR _ | refine xX ?_ _ | refine xA ?_ _) | refine xD ?_ | refine xN ?_ _ | exact xR _))), hid ((((HG.out.setCell _ _).setCell _ _).setCell _ _).trans (Grn.of_ext (by (show Ext _ _; repeat first | (with_reducible first | (refine xH ?_; assumption) | exact xR _ | refine xX ?_ _ | refine xA ?_ _) | refine xD ?_ | refine xN ?_ _ | exact xR _))))⟩
  case measure => simp [intOf]; omega
 ·have hd : decide (j < N) = false := decide_eq_false hjn
  have HT := hid (show ld.take j = ld by rw [show j = ld.length by rw [← HN.out]; omega, List.take_length])
  rw [HT.out] at HW
  have n0 := HEw.out.cell l0
  have n1 := HEw.out.cell l1
  have n2 := HEw.out.cell l2
  have hgw2 : g < wr.heap.size := Nat.lt_of_lt_of_le lg HEw.out.size
  obtain ⟨d0, d1, d2⟩ := HB4w.out.three
  have d3 := HB4w.out.2.1 0
  have d4 := HB4w.out.2.1 1
  have d5 := HB4w.out.2.1 2
  have d6 := HB4w.out.1
  go_wp2_with fail
  refine (logical_any t c b p (by omega) (by omega) (imgN sz ld) _ HOk.out _ (HS.out.of (HEw.out.trans (by (show Ext _ _; repeat first | (with_reducible first | (refine xH ?_; assumption) | exact xR _ | refine xX ?_ _ | refine xA ?_ _) | refine xD ?_ | refine xN ?_ _ | exact xR _)))) ((Sl.of_own wdE_len HW.out).of wdE_len (by (show Ext _ _; repeat first | (with_reducible first | (refine xH ?_; assumption) | exact xR _ | refine xX ?_ _ | refine xA ?_ _) | refine xD ?_ | refine xN ?_ _ | exact xR _)))).mono ?_
  rintro y w' ⟨rfl, r8, rfl⟩
  rw [HQ.out]
  dsimp only
  (repeat (first | go_values | go_skip | go_guarded | go_step | go_upon | (simp only [Int.not_lt, Int.not_le] at *; go_simp) | (go_ite <;> go_prune <;> (try go_simp))))
  exact bodyPost_ret (v := .agg #[.int .i64 q1, .int .u32 q2, .int .u32 q3]) (by simp [results, Tryd.results105, go_sem, d0, d1, d2, d6]) rfl ⟨rfl, (show Ext w _ by (show Ext _ _; repeat first | (with_reducible first | (refine xH ?_; assumption) | exact xR _ | refine xX ?_ _ | refine xA ?_ _) | refine xD ?_ | refine xN ?_ _ | refine xS ?_ (by (try dsimp only); first | omega | (simp; done) | (simp; omega)) _))⟩
def Cx [LoC] (t c b : Int) (w : World) (g : Nat) (s : CS) : Prop := ∃ pa sa ta la aa ra fa pc sc tc lc ac rc fc, Cd t c b w g s pa sa ta la aa ra fa pc sc tc lc ac rc fc
theorem q1_any (x y z : Int) (w : World) :
 Calls Tryd.prog 107 #[.agg #[.int .i64 x, .int .u32 y, .int .u32 z]] w fun e w' => e = .returned (.bool (!wdB (x, y, z) zW)) ∧ ∃ r, w' = ext w r := by
 have hne := neq_word x y z 0 0 0
 have hzw : zW = (0, 0, 0) := rfl
 go_enter Tryd.func107, Tryd.ntmps107
 go_wp2_with fail
 go_ret
 exact ⟨rfl, by (show Ext _ _; repeat first | (with_reducible first | (refine xH ?_; assumption) | exact xR _ | refine xX ?_ _ | refine xA ?_ _) | refine xD ?_ | refine xN ?_ _ | exact xR _)⟩
theorem q2_any (x y z : Int) (w : World) :
 Calls Tryd.prog 108 #[.agg #[.int .i64 x, .int .u32 y, .int .u32 z]] w fun e w' => e = .returned (.agg #[.int .i64 0, .int .u32 0, .int .u32 0]) ∧ ∃ r, w' = ext w r := by
 go_enter Tryd.func108, Tryd.ntmps108
 (repeat (first | go_values | go_skip | go_guarded | go_step | go_upon | (simp only [Int.not_lt, Int.not_le] at *; go_simp) | (go_ite <;> go_prune <;> (try go_simp))))
 exact bodyPost_ret (v := .agg #[.int .i64 0, .int .u32 0, .int .u32 0]) (by simp [results, Tryd.results108, go_sem]) rfl ⟨rfl, by (show Ext _ _; repeat first | (with_reducible first | (refine xH ?_; assumption) | exact xR _ | refine xX ?_ _ | refine xA ?_ _) | refine xD ?_ | refine xN ?_ _ | refine xS ?_ (by (try dsimp only); first | omega | (simp; done) | (simp; omega)) _)⟩
end Go.Proofs.YtdpbcfjfnclpiaaDoor
namespace Go.Proofs.YtdpbcfjfnclpiaaDoor
set_option linter.unusedSimpArgs false
set_option linter.unusedVariables false
open Go.RowKit
theorem sl_of_blk1 {α : Type} {enc : α → List Value} {size : Nat} (henc : ∀ x, (enc x).length = size) {w : World} {b : Nat} {x : α} (h : Blk w b (enc x)) : Sl w size enc (.slice (some ⟨b, 0, none⟩) 1 1) [x] := by
 refine ⟨_, _, rfl, ⟨by simp, by simp⟩, fun _ => ⟨b, 0, rfl, h.1, fun i y hy j hj => ?_⟩⟩
 cases i with
 | zero =>
  simp at hy
  subst hy
  have h2 := h.2.2 j _ (List.getElem?_eq_getElem (by rw [henc]; exact hj))
  rw [show 0 + 0 * size + j = j by omega, h2, List.getElem?_eq_getElem (by rw [henc]; exact hj)]
 | succ i => simp at hy
theorem Cd.of [LoC] {t c b : Int} {w w' : World} {g : Nat} {s : CS} {pa sa ta la aa ra fa : Option Addr} {pc sc tc lc ac rc fc : Nat} (h : Cd t c b w g s pa sa ta la aa ra fa pc sc tc lc ac rc fc) (he : Ext w w') : Cd t c b w' g s pa sa ta la aa ra fa pc sc tc lc ac rc fc :=
 have hg : Grn g w w' := Grn.of_ext he
 ⟨h.blk.of he, h.pl.grn locE_len hg, h.sl.grn locE_len hg, h.th.grn locE_len hg, h.loads.grn locE_len hg, h.acts.grn acE_len hg, h.stored.grn locE_len hg, h.loaded.grn fdE_len hg, h.tight, Nat.le_trans h.big he.size⟩
theorem Sn.tail1 [LoC] {g : Nat} {w : World} {a : Addr} {n x c : Nat} {r : List Nat} (h : Sn w g 1 locE (.slice (some a) (n + 1) c) (x :: r)) (hc : c = 1) : Sn w g 1 locE (.slice (some a) n 0) r := by
 subst hc
 have hr := h.1.room
 rw [List.length_cons] at hr
 have h0 : r = [] := List.eq_nil_of_length_eq_zero (by omega)
 have hn : n = 0 := by rw [h0] at hr; simp at hr; omega
 subst h0 hn
 exact ⟨⟨some a, 0, rfl, ⟨by simp, by simp⟩, fun hne => absurd rfl hne⟩, fun hne => absurd rfl hne⟩
theorem Sn.tail2 [LoC] {g : Nat} {w : World} {b o n x c : Nat} {r : List Nat} (h : Sn w g 1 locE (.slice (some ⟨b, o, none⟩) (n + 1) c) (x :: r)) (hc : ¬ c = 1) : Sn w g 1 locE (.slice (some ⟨b, o + 1, none⟩) n (c - 1)) r := by
 have h1 := Sl.dropB h.1 1 (by simp) hc
 simp only [Nat.one_mul, Nat.add_sub_cancel, List.drop_succ_cons, List.drop_zero] at h1
 exact ⟨h1, fun _ a' n' c' he => by
  simp only [Value.slice.injEq, Option.some.injEq] at he
  have := h.2 (by simp) ⟨b, o, none⟩ _ _ rfl
  rw [← he.1]; exact this⟩
theorem Cd.tail4 [LoC] {t c b : Int} {w : World} {g : Nat} {s : CS} {pa sa ta la aa ra fa : Option Addr} {pc sc tc lc ac rc fc : Nat} (h : Cd t c b w g s pa sa ta la aa ra fa pc sc tc lc ac rc fc) {rest : List Nat} {a' : Option Addr} {n c' : Nat} (hn : n = rest.length)
 (hsn : Sn w g 1 locE (.slice a' n c') rest) : Cd t c b ((w.setCell ⟨g, 4, none⟩ (.slice a' n c')).setCell ⟨g, 7, none⟩ (.int .i64 0)) g { s with sl := rest, part := 0 } pa a' ta la aa ra fa pc c' tc lc ac rc fc := by
 subst hn
 have hg : Grn g w ((w.setCell ⟨g, 4, none⟩ (.slice a' rest.length c')).setCell ⟨g, 7, none⟩ (.int .i64 0)) := (Grn.refl.setCell _ _).setCell _ _
 exact ⟨(h.blk.set 4 (by simp) _).set 7 (by simp) _, h.pl.grn locE_len hg, hsn.grn locE_len hg, h.th.grn locE_len hg, h.loads.grn locE_len hg, h.acts.grn acE_len hg, h.stored.grn locE_len hg, h.loaded.grn fdE_len hg, fun h0 => (by rcases h0 with h0 | h0 <;> cases h0), Nat.le_trans h.big hg.size⟩
set_option maxRecDepth 100000 in
set_option maxHeartbeats 2000000 in
theorem ceach4_any [LoC] {t c b : Int} {w : World} {g : Nat} {s : CS} {pa sa ta la aa ra fa : Option Addr} {pc sc tc lc ac rc fc : Nat} (h : Cd t c b w g s pa sa ta la aa ra fa pc sc tc lc ac rc fc)
 (hb1 : s.acts.length ≤ 100000) (hb2 : s.stored.length ≤ 100000) (k p' : Nat) (x y z : Int) (hk : s.part ≠ 0 → s.loaded.length = k + 1 ∧ s.loaded[k]? = some (p', (x, y, z)) ∧ WdOk (x, y, z)) :
 Calls Tryd.prog 106 #[.pointer (some ⟨g, 0, none⟩), .pointer (some ⟨g, 4, none⟩), .func (.func 48) #[] #[], .func (.func 49) #[] #[]] w
  fun e w' => e = .returned (.bool (cSettle s).2) ∧ Cx t c b w' g (cSettle s).1 ∧ Grn g w w' := by
 have HH := hid h
 have lg := h.blk.1
 have l4 := h.blk.2.2 4 _ rfl
 have l7 := h.blk.2.2 7 _ rfl
 have l8 := h.blk.2.2 8 _ rfl
 have l11 := h.blk.2.2 11 _ rfl
 have f7 := h.blk.2.1 7
 have f8 := h.blk.2.1 8
 have f11 := h.blk.2.1 11
 have f4 := h.blk.2.1 4
 cases hl : s.sl with
 | nil =>
  have HR := hid (show cSettle s = (s, true) by unfold cSettle; rw [hl])
  rw [hl] at l4
  rw [HR.out]
  clear hl hk
  go_enter Tryd.func106, Tryd.ntmps106
  go_wp2_with fail
  go_ret
  exact ⟨rfl, ⟨_, _, _, _, _, _, _, _, _, _, _, _, _, _, HH.out⟩, Grn.refl⟩
 | cons at_ rest =>
  obtain ⟨n, hn⟩ : ∃ n, n = rest.length := ⟨_, rfl⟩
  have HSl := hid (show Sn w g 1 locE (.slice sa (n + 1) sc) (at_ :: rest) by have := h.sl; rw [hl] at this; rw [hn]; exact this)
  have hcap := HSl.out.1.room.2
  obtain ⟨hq, b0, o0, hab, hb0, hc0⟩ := Sl.at HSl.out.1 (i := 0) (x := at_) rfl
  have k0 := hc0 0 (by omega)
  simp [locE] at k0
  rw [hl] at l4
  rw [List.length_cons, ← hn] at l4
  have hni : (0 : Int) < (n : Int) + 1 := by omega
  have HL := hid hl
  have HN := hid hn
  subst hab
  clear hq hc0 hn h hl
  by_cases hp0 : s.part = 0
  ·have HP := hid hp0
   rw [hp0] at l7
   clear hk hp0
   go_enter Tryd.func106, Tryd.ntmps106
   go_wp2_with fail
   go_ret
   have HR := hid (show cSettle s = ({ s with loaded := [], loads := [at_], part := 1 }, false) by unfold cSettle; rw [HL.out]; dsimp only; rw [if_pos HP.out])
   have HE := HH.out
   have HG := hid (show Grn g w _ from ((((Grn.refl (g := g) (w := w)).setCell 11 (.slice none 0 0)).setCell 8 (.slice (some ⟨w.heap.size, 0, none⟩) 1 1)).setCell 7 (.int .i64 1)).alloc (.cells #[.int .i64 at_] 44))
   rw [HR.out]
   refine ⟨rfl, ⟨pa, some ⟨b0, o0, none⟩, ta, some ⟨w.heap.size, 0, none⟩, aa, ra, none, pc, sc, tc, 1, ac, rc, 0, ?_⟩, HG.out⟩
   refine ⟨(((HE.blk.set 11 (by simp) (.slice none 0 0)).set 8 (by simp) (.slice (some ⟨w.heap.size, 0, none⟩) 1 1)).set 7 (by simp) (.int .i64 1)).alloc _, HE.pl.grn locE_len HG.out, HE.sl.grn locE_len HG.out, HE.th.grn locE_len HG.out, ⟨sl_of_blk1 locE_len (Blk.new _ _ rfl (by simp)), fun _ a n c he => ?_⟩, HE.acts.grn acE_len HG.out, HE.stored.grn locE_len HG.out, ⟨⟨none, 0, rfl, ⟨by simp, Nat.le_refl _⟩, fun hne => absurd rfl hne⟩, fun _ a n c he => ?_⟩, fun _ => rfl, Nat.le_trans HE.big HG.out.size⟩
   ·simp only [Value.slice.injEq, Option.some.injEq] at he
    have hbg := HE.big
    rw [← he.1]; dsimp only; omega
   ·simp only [Value.slice.injEq] at he
    cases he.1
  ·obtain ⟨hk1, hk2, hko⟩ := hk hp0
   have hpi : ((s.part : Int) == 0) = false := by simp; omega
   have HKo := hid hko
   have HP := hid hp0
   have HK1 := hid hk1
   have HK2 := hid hk2
   clear hk hp0 hk1 hk2 hko
   go_enter Tryd.func106, Tryd.ntmps106
   go_wp2_with fail
   refine (clast_any HH.out k p' x y z HK1.out HK2.out).mono ?_
   rintro e w' ⟨rfl, r1, rfl⟩
   go_wp2_with fail
   refine (und_any x y z _).mono ?_
   rintro e w' ⟨rfl, r2, rfl⟩
   cases hu : undB (x, y, z)
   ·have HU := hid hu
    clear hu
    have HR := hid (show cSettle s = ({ s with sl := rest, part := 0 }, false) by
     unfold cSettle; rw [HL.out]; dsimp only; rw [if_neg HP.out, show cLast s = (x, y, z) by unfold cLast; rw [List.getLast?_eq_getElem?, HK1.out, Nat.add_sub_cancel, HK2.out], HU.out]; rfl)
    have HX := HH.out.of (show Ext w (ext ((ext w r1).alloc (.cells #[.int .i64 x, .int .u32 y, .int .u32 z] 40)) r2) by (show Ext _ _; repeat first | (with_reducible first | (refine xH ?_; assumption) | exact xR _ | refine xX ?_ _ | refine xA ?_ _) | refine xD ?_ | refine xN ?_ _ | exact xR _))
    have HGx := hid (show Grn g w _ from Grn.of_ext (show Ext w (ext ((ext w r1).alloc (.cells #[.int .i64 x, .int .u32 y, .int .u32 z] 40)) r2) by (show Ext _ _; repeat first | (with_reducible first | (refine xH ?_; assumption) | exact xR _ | refine xX ?_ _ | refine xA ?_ _) | refine xD ?_ | refine xN ?_ _ | exact xR _)))
    have HSx := hid (HSl.out.grn locE_len HGx.out)
    have HX := hid HX
    go_wp2_with fail
    all_goals
     go_ret
     rw [HR.out]
    ·exact ⟨rfl, ⟨_, _, _, _, _, _, _, _, _, _, _, _, _, _, Cd.tail4 HX.out HN.out (HSx.out.tail1 (by assumption))⟩, (HGx.out.setCell _ _).setCell _ _⟩
    ·exact ⟨rfl, ⟨_, _, _, _, _, _, _, _, _, _, _, _, _, _, Cd.tail4 HX.out HN.out (HSx.out.tail2 (by assumption))⟩, (HGx.out.setCell _ _).setCell _ _⟩
   ·have HU := hid hu
    clear hu
    go_wp2_with fail
    refine (failed_any x y z HKo.out.2.1.1 HKo.out.2.1.2 _).mono ?_
    rintro e w' ⟨rfl, r3, rfl⟩
    go_wp2_with fail
    refine (cstore_any (HH.out.of (by (show Ext _ _; repeat first | (with_reducible first | (refine xH ?_; assumption) | exact xR _ | refine xX ?_ _ | refine xA ?_ _) | refine xD ?_ | refine xN ?_ _ | exact xR _))) at_ 2 y 0 hb1 hb2).mono ?_
    rintro e V ⟨rfl, ⟨aa', ac', ra', rc', hcd⟩, hgv⟩
    have HX := hcd
    have HGx := hid (show Grn g w V from (Grn.of_ext (by (show Ext _ _; repeat first | (with_reducible first | (refine xH ?_; assumption) | exact xR _ | refine xX ?_ _ | refine xA ?_ _) | refine xD ?_ | refine xN ?_ _ | exact xR _))).trans hgv)
    have HSx := hid (HSl.out.grn locE_len HGx.out)
    have m4 := hcd.blk.2.2 4 _ rfl
    have m7 := hcd.blk.2.2 7 _ rfl
    have g7 := hcd.blk.2.1 7
    have g4 := hcd.blk.2.1 4
    have mg := hcd.blk.1
    rw [show (cStore s at_ (2, y, 0)).sl = at_ :: rest from HL.out, List.length_cons, ← HN.out] at m4
    clear hcd hgv l4 l7 l8 l11 f7 f8 f11 f4
    have HX := hid HX
    have HR := hid (show cSettle s = ({ cStore s at_ (2, y, 0) with sl := rest, part := 0 }, false) by
     unfold cSettle; rw [HL.out]; dsimp only; rw [if_neg HP.out, show cLast s = (x, y, z) by unfold cLast; rw [List.getLast?_eq_getElem?, HK1.out, Nat.add_sub_cancel, HK2.out], HU.out]; rfl)
    go_wp2_with fail
    all_goals
     go_ret
     rw [HR.out]
    ·exact ⟨rfl, ⟨_, _, _, _, _, _, _, _, _, _, _, _, _, _, Cd.tail4 HX.out HN.out (HSx.out.tail1 (by assumption))⟩, (HGx.out.setCell _ _).setCell _ _⟩
    ·exact ⟨rfl, ⟨_, _, _, _, _, _, _, _, _, _, _, _, _, _, Cd.tail4 HX.out HN.out (HSx.out.tail2 (by assumption))⟩, (HGx.out.setCell _ _).setCell _ _⟩
theorem Cd.tail5 [LoC] {t c b : Int} {w : World} {g : Nat} {s : CS} {pa sa ta la aa ra fa : Option Addr} {pc sc tc lc ac rc fc : Nat} (h : Cd t c b w g s pa sa ta la aa ra fa pc sc tc lc ac rc fc) {rest : List Nat} {a' : Option Addr} {n c' : Nat} (hn : n = rest.length)
 (hsn : Sn w g 1 locE (.slice a' n c') rest) : Cd t c b ((w.setCell ⟨g, 5, none⟩ (.slice a' n c')).setCell ⟨g, 7, none⟩ (.int .i64 0)) g { s with th := rest, part := 0 } pa sa a' la aa ra fa pc sc c' lc ac rc fc := by
 subst hn
 have hg : Grn g w ((w.setCell ⟨g, 5, none⟩ (.slice a' rest.length c')).setCell ⟨g, 7, none⟩ (.int .i64 0)) := (Grn.refl.setCell _ _).setCell _ _
 exact ⟨(h.blk.set 5 (by simp) _).set 7 (by simp) _, h.pl.grn locE_len hg, h.sl.grn locE_len hg, hsn.grn locE_len hg, h.loads.grn locE_len hg, h.acts.grn acE_len hg, h.stored.grn locE_len hg, h.loaded.grn fdE_len hg, fun h0 => (by rcases h0 with h0 | h0 <;> cases h0), Nat.le_trans h.big hg.size⟩
set_option maxRecDepth 100000 in
set_option maxHeartbeats 2000000 in
theorem ceach5_any [LoC] {t c b : Int} {w : World} {g : Nat} {s : CS} {pa sa ta la aa ra fa : Option Addr} {pc sc tc lc ac rc fc : Nat} (h : Cd t c b w g s pa sa ta la aa ra fa pc sc tc lc ac rc fc)
 (hb1 : s.acts.length ≤ 100000) (hb2 : s.stored.length ≤ 100000) (k p' : Nat) (x y z : Int) (hk : s.part ≠ 0 → s.loaded.length = k + 1 ∧ s.loaded[k]? = some (p', (x, y, z)) ∧ WdOk (x, y, z)) :
 Calls Tryd.prog 106 #[.pointer (some ⟨g, 0, none⟩), .pointer (some ⟨g, 5, none⟩), .func (.func 107) #[] #[], .func (.func 108) #[] #[]] w
  fun e w' => e = .returned (.bool (cQuiet s).2) ∧ Cx t c b w' g (cQuiet s).1 ∧ Grn g w w' := by
 have HH := hid h
 have lg := h.blk.1
 have l4 := h.blk.2.2 5 _ rfl
 have l7 := h.blk.2.2 7 _ rfl
 have l8 := h.blk.2.2 8 _ rfl
 have l11 := h.blk.2.2 11 _ rfl
 have f7 := h.blk.2.1 7
 have f8 := h.blk.2.1 8
 have f11 := h.blk.2.1 11
 have f4 := h.blk.2.1 5
 cases hl : s.th with
 | nil =>
  have HR := hid (show cQuiet s = (s, true) by unfold cQuiet; rw [hl])
  rw [hl] at l4
  rw [HR.out]
  clear hl hk
  go_enter Tryd.func106, Tryd.ntmps106
  go_wp2_with fail
  go_ret
  exact ⟨rfl, ⟨_, _, _, _, _, _, _, _, _, _, _, _, _, _, HH.out⟩, Grn.refl⟩
 | cons at_ rest =>
  obtain ⟨n, hn⟩ : ∃ n, n = rest.length := ⟨_, rfl⟩
  have HSl := hid (show Sn w g 1 locE (.slice ta (n + 1) tc) (at_ :: rest) by have := h.th; rw [hl] at this; rw [hn]; exact this)
  have hcap := HSl.out.1.room.2
  obtain ⟨hq, b0, o0, hab, hb0, hc0⟩ := Sl.at HSl.out.1 (i := 0) (x := at_) rfl
  have k0 := hc0 0 (by omega)
  simp [locE] at k0
  rw [hl] at l4
  rw [List.length_cons, ← hn] at l4
  have hni : (0 : Int) < (n : Int) + 1 := by omega
  have HL := hid hl
  have HN := hid hn
  subst hab
  clear hq hc0 hn h hl
  by_cases hp0 : s.part = 0
  ·have HP := hid hp0
   rw [hp0] at l7
   clear hk hp0
   go_enter Tryd.func106, Tryd.ntmps106
   go_wp2_with fail
   go_ret
   have HR := hid (show cQuiet s = ({ s with loaded := [], loads := [at_], part := 1 }, false) by unfold cQuiet; rw [HL.out]; dsimp only; rw [if_pos HP.out])
   have HE := HH.out
   have HG := hid (show Grn g w _ from ((((Grn.refl (g := g) (w := w)).setCell 11 (.slice none 0 0)).setCell 8 (.slice (some ⟨w.heap.size, 0, none⟩) 1 1)).setCell 7 (.int .i64 1)).alloc (.cells #[.int .i64 at_] 44))
   rw [HR.out]
   refine ⟨rfl, ⟨pa, sa, some ⟨b0, o0, none⟩, some ⟨w.heap.size, 0, none⟩, aa, ra, none, pc, sc, tc, 1, ac, rc, 0, ?_⟩, HG.out⟩
   refine ⟨(((HE.blk.set 11 (by simp) (.slice none 0 0)).set 8 (by simp) (.slice (some ⟨w.heap.size, 0, none⟩) 1 1)).set 7 (by simp) (.int .i64 1)).alloc _, HE.pl.grn locE_len HG.out, HE.sl.grn locE_len HG.out, HE.th.grn locE_len HG.out, ⟨sl_of_blk1 locE_len (Blk.new _ _ rfl (by simp)), fun _ a n c he => ?_⟩, HE.acts.grn acE_len HG.out, HE.stored.grn locE_len HG.out, ⟨⟨none, 0, rfl, ⟨by simp, Nat.le_refl _⟩, fun hne => absurd rfl hne⟩, fun _ a n c he => ?_⟩, fun _ => rfl, Nat.le_trans HE.big HG.out.size⟩
   ·simp only [Value.slice.injEq, Option.some.injEq] at he
    have hbg := HE.big
    rw [← he.1]; dsimp only; omega
   ·simp only [Value.slice.injEq] at he
    cases he.1
  ·obtain ⟨hk1, hk2, hko⟩ := hk hp0
   have hpi : ((s.part : Int) == 0) = false := by simp; omega
   have HKo := hid hko
   have HP := hid hp0
   have HK1 := hid hk1
   have HK2 := hid hk2
   clear hk hp0 hk1 hk2 hko
   go_enter Tryd.func106, Tryd.ntmps106
   go_wp2_with fail
   refine (clast_any HH.out k p' x y z HK1.out HK2.out).mono ?_
   rintro e w' ⟨rfl, r1, rfl⟩
   go_wp2_with fail
   refine (q1_any x y z _).mono ?_
   rintro e w' ⟨rfl, r2, rfl⟩
   cases hu : (!wdB (x, y, z) zW)
   ·have HU := hid (show wdB (x, y, z) zW = true by simpa using hu)
    clear hu
    have HR := hid (show cQuiet s = ({ s with th := rest, part := 0 }, false) by
     unfold cQuiet; rw [HL.out]; dsimp only; rw [if_neg HP.out, show cLast s = (x, y, z) by unfold cLast; rw [List.getLast?_eq_getElem?, HK1.out, Nat.add_sub_cancel, HK2.out], HU.out]; rfl)
    have HX := HH.out.of (show Ext w (ext ((ext w r1).alloc (.cells #[.int .i64 x, .int .u32 y, .int .u32 z] 40)) r2) by (show Ext _ _; repeat first | (with_reducible first | (refine xH ?_; assumption) | exact xR _ | refine xX ?_ _ | refine xA ?_ _) | refine xD ?_ | refine xN ?_ _ | exact xR _))
    have HGx := hid (show Grn g w _ from Grn.of_ext (show Ext w (ext ((ext w r1).alloc (.cells #[.int .i64 x, .int .u32 y, .int .u32 z] 40)) r2) by (show Ext _ _; repeat first | (with_reducible first | (refine xH ?_; assumption) | exact xR _ | refine xX ?_ _ | refine xA ?_ _) | refine xD ?_ | refine xN ?_ _ | exact xR _)))
    have HSx := hid (HSl.out.grn locE_len HGx.out)
    have HX := hid HX
    go_wp2_with fail
    all_goals
     go_ret
     rw [HR.out]
    ·exact ⟨rfl, ⟨_, _, _, _, _, _, _, _, _, _, _, _, _, _, Cd.tail5 HX.out HN.out (HSx.out.tail1 (by assumption))⟩, (HGx.out.setCell _ _).setCell _ _⟩
    ·exact ⟨rfl, ⟨_, _, _, _, _, _, _, _, _, _, _, _, _, _, Cd.tail5 HX.out HN.out (HSx.out.tail2 (by assumption))⟩, (HGx.out.setCell _ _).setCell _ _⟩
   ·have HU := hid (show wdB (x, y, z) zW = false by simpa using hu)
    clear hu
    go_wp2_with fail
    refine (q2_any x y z _).mono ?_
    rintro e w' ⟨rfl, r3, rfl⟩
    go_wp2_with fail
    refine (cstore_any (HH.out.of (by (show Ext _ _; repeat first | (with_reducible first | (refine xH ?_; assumption) | exact xR _ | refine xX ?_ _ | refine xA ?_ _) | refine xD ?_ | refine xN ?_ _ | exact xR _))) at_ 0 0 0 hb1 hb2).mono ?_
    rintro e V ⟨rfl, ⟨aa', ac', ra', rc', hcd⟩, hgv⟩
    have HX := hcd
    have HGx := hid (show Grn g w V from (Grn.of_ext (by (show Ext _ _; repeat first | (with_reducible first | (refine xH ?_; assumption) | exact xR _ | refine xX ?_ _ | refine xA ?_ _) | refine xD ?_ | refine xN ?_ _ | exact xR _))).trans hgv)
    have HSx := hid (HSl.out.grn locE_len HGx.out)
    have m4 := hcd.blk.2.2 5 _ rfl
    have m7 := hcd.blk.2.2 7 _ rfl
    have g7 := hcd.blk.2.1 7
    have g4 := hcd.blk.2.1 5
    have mg := hcd.blk.1
    rw [show (cStore s at_ (0, 0, 0)).th = at_ :: rest from HL.out, List.length_cons, ← HN.out] at m4
    clear hcd hgv l4 l7 l8 l11 f7 f8 f11 f4
    have HX := hid HX
    have HR := hid (show cQuiet s = ({ cStore s at_ (0, 0, 0) with th := rest, part := 0 }, false) by
     unfold cQuiet; rw [HL.out]; dsimp only; rw [if_neg HP.out, show cLast s = (x, y, z) by unfold cLast; rw [List.getLast?_eq_getElem?, HK1.out, Nat.add_sub_cancel, HK2.out], HU.out]; rfl)
    go_wp2_with fail
    all_goals
     go_ret
     rw [HR.out]
    ·exact ⟨rfl, ⟨_, _, _, _, _, _, _, _, _, _, _, _, _, _, Cd.tail5 HX.out HN.out (HSx.out.tail1 (by assumption))⟩, (HGx.out.setCell _ _).setCell _ _⟩
    ·exact ⟨rfl, ⟨_, _, _, _, _, _, _, _, _, _, _, _, _, _, Cd.tail5 HX.out HN.out (HSx.out.tail2 (by assumption))⟩, (HGx.out.setCell _ _).setCell _ _⟩
theorem settle_any [LoC] {t c b : Int} {w : World} {g : Nat} {s : CS} (h : Cx t c b w g s) (hb1 : s.acts.length ≤ 100000) (hb2 : s.stored.length ≤ 100000) (k p' : Nat) (x y z : Int) (hk : s.part ≠ 0 → s.loaded.length = k + 1 ∧ s.loaded[k]? = some (p', (x, y, z)) ∧ WdOk (x, y, z)) :
 Calls Tryd.prog 100 #[.pointer (some ⟨g, 0, none⟩)] w fun e w' => e = .returned (.bool (cSettle s).2) ∧ Cx t c b w' g (cSettle s).1 ∧ Grn g w w' := by
 obtain ⟨pa, sa, ta, la, aa, ra, fa, pc, sc, tc, lc, ac, rc, fc, hcd⟩ := h
 have HC := hid hcd
 have lg := hcd.blk.1
 clear hcd
 have HK := hid hk
 clear hk
 go_enter Tryd.func100, Tryd.ntmps100
 go_wp2_with fail
 refine (ceach4_any HC.out hb1 hb2 k p' x y z HK.out).mono ?_
 rintro e w' ⟨rfl, hcx, hg⟩
 go_wp2_with fail
 go_ret
 exact ⟨rfl, hcx, hg⟩
theorem quiet_any [LoC] {t c b : Int} {w : World} {g : Nat} {s : CS} (h : Cx t c b w g s) (hb1 : s.acts.length ≤ 100000) (hb2 : s.stored.length ≤ 100000) (k p' : Nat) (x y z : Int) (hk : s.part ≠ 0 → s.loaded.length = k + 1 ∧ s.loaded[k]? = some (p', (x, y, z)) ∧ WdOk (x, y, z)) :
 Calls Tryd.prog 101 #[.pointer (some ⟨g, 0, none⟩)] w fun e w' => e = .returned (.bool (cQuiet s).2) ∧ Cx t c b w' g (cQuiet s).1 ∧ Grn g w w' := by
 obtain ⟨pa, sa, ta, la, aa, ra, fa, pc, sc, tc, lc, ac, rc, fc, hcd⟩ := h
 have HC := hid hcd
 have lg := hcd.blk.1
 clear hcd
 have HK := hid hk
 clear hk
 go_enter Tryd.func101, Tryd.ntmps101
 go_wp2_with fail
 refine (ceach5_any HC.out hb1 hb2 k p' x y z HK.out).mono ?_
 rintro e w' ⟨rfl, hcx, hg⟩
 go_wp2_with fail
 go_ret
 exact ⟨rfl, hcx, hg⟩
end Go.Proofs.YtdpbcfjfnclpiaaDoor
