/- The walk of package redo's Words. -/
import Derived.Test.YtdpbcfjfnclpiaaDoorPk16
namespace Go.Proofs.YtdpbcfjfnclpiaaDoor
set_option linter.unusedSimpArgs false
set_option linter.unusedVariables false
open Go.RowKit
theorem Sl.grnV {α : Type} {size : Nat} {enc : α → List Value} (henc : ∀ x, (enc x).length = size) {g : Nat} {w w' : World} {v : Value} {l : List α} (h : Sl w size enc v l) (k : Grn g w w') (hb : ∀ a n c, v = .slice (some a) n c → a.block ≠ g) : Sl w' size enc v l := by
 obtain ⟨a, c, rfl, hm, hl⟩ := h
 refine ⟨a, c, rfl, hm, fun hn => ?_⟩
 obtain ⟨b, o, rfl, hbl, hc⟩ := hl hn
 have hne := hb _ _ _ rfl
 refine ⟨b, o, rfl, Nat.lt_of_lt_of_le hbl k.size, fun i x hx j hj => ?_⟩
 have h1 := hc i x hx j hj
 rw [List.getElem?_eq_getElem (by rw [henc]; exact hj)] at h1 ⊢
 exact k.cell hne h1
theorem Own.apart {α : Type} {enc : α → List Value} {base : Nat} {e : TypeId} {size : Nat} {v : Value} {l : List α} {w : World} (h : Own w base e size enc v l) {g : Nat} (hg : g < base) : ∀ a n c, v = .slice (some a) n c → a.block ≠ g := by
 rintro a n c rfl
 rcases h.2 with ⟨h1, _⟩ | ⟨g', cap, cur, h1, hb, _⟩
 ·cases h1
 ·simp only [Value.slice.injEq, Option.some.injEq] at h1
  rw [h1.1]; dsimp only; omega
set_option maxHeartbeats 400000 in
theorem und_any (x y z : Int) (w : World) :
 Calls Tryd.prog 48 #[.agg #[.int .i64 x, .int .u32 y, .int .u32 z]] w fun e w' => e = .returned (.bool (undB (x, y, z))) ∧ ∃ r, w' = ext w r := by
 by_cases h0 : x = 0
 ·have HR := hid (show undB (x, y, z) = true by unfold undB; rw [decide_eq_true h0]; rfl)
  have hb : (x == 0) = true := by simpa using h0
  clear h0
  go_enter Tryd.func48, Tryd.ntmps48
  go_wp2_with fail
  go_ret
  exact ⟨ret_bool HR.out.symm, by (show Ext _ _; repeat first | (with_reducible first | (refine xH ?_; assumption) | exact xR _ | refine xX ?_ _ | refine xA ?_ _) | refine xD ?_ | refine xN ?_ _ | exact xR _)⟩
 ·by_cases h3 : x = 3
  ·have HR := hid (show undB (x, y, z) = true by unfold undB; rw [decide_eq_true h3]; simp)
   have hb : (x == 0) = false := by simpa using h0
   have hb3 : (x == 3) = true := by simpa using h3
   clear h0 h3
   go_enter Tryd.func48, Tryd.ntmps48
   go_wp2_with fail
   go_ret
   exact ⟨ret_bool HR.out.symm, by (show Ext _ _; repeat first | (with_reducible first | (refine xH ?_; assumption) | exact xR _ | refine xX ?_ _ | refine xA ?_ _) | refine xD ?_ | refine xN ?_ _ | exact xR _)⟩
  ·have HR := hid (show undB (x, y, z) = false by unfold undB; rw [decide_eq_false h0, decide_eq_false h3]; rfl)
   have hb : (x == 0) = false := by simpa using h0
   have hb3 : (x == 3) = false := by simpa using h3
   clear h0 h3
   go_enter Tryd.func48, Tryd.ntmps48
   go_wp2_with fail
   go_ret
   exact ⟨ret_bool HR.out.symm, by (show Ext _ _; repeat first | (with_reducible first | (refine xH ?_; assumption) | exact xR _ | refine xX ?_ _ | refine xA ?_ _) | refine xD ?_ | refine xN ?_ _ | exact xR _)⟩
set_option maxHeartbeats 400000 in
theorem failed_any (x y z : Int) (h0 : 0 ≤ y) (h1 : y ≤ 4294967295) (w : World) :
 Calls Tryd.prog 49 #[.agg #[.int .i64 x, .int .u32 y, .int .u32 z]] w fun e w' => e = .returned (.agg #[.int .i64 2, .int .u32 y, .int .u32 0]) ∧ ∃ r, w' = ext w r := by
 have hw : IntKind.i64.wrap y = y := IntWalk.i64_in _ (by omega)
 go_enter Tryd.func49, Tryd.ntmps49
 go_wp2_with fail
 refine (status_any 2 y h0 h1 _).mono ?_
 rintro e w' ⟨rfl, r1, rfl⟩
 (repeat (first | go_values | go_skip | go_guarded | go_step | go_upon | (simp only [Int.not_lt, Int.not_le] at *; go_simp) | (go_ite <;> go_prune <;> (try go_simp))))
 exact bodyPost_ret (v := .agg #[.int .i64 2, .int .u32 y, .int .u32 0]) (by simp [results, Tryd.results49, go_sem]) rfl ⟨rfl, by (show Ext _ _; repeat first | (with_reducible first | (refine xH ?_; assumption) | exact xR _ | refine xX ?_ _ | refine xA ?_ _) | refine xD ?_ | refine xN ?_ _ | refine xS ?_ (by (try dsimp only); first | omega | (simp; done) | (simp; omega)) _)⟩
theorem logG_put (f : Nat → Wd) (L : List Wd) (p : Nat) {x : Wd} (h : f p = x) : put1 (logG f) L p = L.set p x := by rw [← h]; rfl
theorem statG_yes {L M : List Wd} {p : Nat} {x y z : Int} (h : L[p]? = some (x, y, z)) (hu : undB (x, y, z) = true) : put1 (statG L) M p = M.set p (2, y, 0) := by
 unfold put1 statG; rw [h]; dsimp only; rw [if_pos hu]
theorem statG_no {L M : List Wd} {p : Nat} {x : Wd} (h : L[p]? = some x) (hu : undB x = false) : put1 (statG L) M p = M := by
 unfold put1 statG; rw [h]; dsimp only; rw [hu]; rfl
theorem zeroG_put (L : List Wd) (p : Nat) : put1 zeroG L p = L.set p (0, 0, 0) := rfl
theorem statsL_lt {t c b : Int} (hr : rightN t c b = true) {p : Nat} (h : p ∈ statsL t c b) : (p : Int) < sizeN t c b := by
 have hk := (right_lok hr).1
 unfold statsL slotTo blockTo at h
 rw [List.mem_append, List.mem_map, List.mem_map] at h
 rcases h with ⟨k, hk1, rfl⟩ | ⟨k, hk1, rfl⟩
 ·rw [List.mem_range] at hk1
  have := (atN_lt (p := 4) (i := (k : Int)) (more := 0) hr (by omega) ⟨by omega, by simp only [manyN]; omega⟩ (by simp) (by omega))
  omega
 ·rw [List.mem_range] at hk1
  have := (atN_lt (p := 6) (i := (k : Int)) (more := 0) hr (by omega) ⟨by omega, by simp only [manyN]; omega⟩ (by simp) (by omega))
  omega
theorem ownsL_lt {t c b : Int} (hr : rightN t c b = true) {p : Nat} (h : p ∈ ownsL t c b) : (p : Int) < sizeN t c b := by
 have hk := (right_lok hr).1
 unfold ownsL ownTo at h
 rw [List.mem_flatMap] at h
 obtain ⟨k, hk1, hk2⟩ := h
 rw [List.mem_range] at hk1
 have h0 := (atN_lt (p := 1) (i := (k : Int)) (more := 0) hr (by omega) ⟨by omega, by simp only [manyN]; omega⟩ (by simp) (by omega))
 have h1 := (atN_lt (p := 1) (i := (k : Int)) (more := 1) hr (by omega) ⟨by omega, by simp only [manyN]; omega⟩ (by simp) (by omega))
 simp only [List.mem_cons, List.not_mem_nil, or_false] at hk2
 rcases hk2 with rfl | rfl <;> omega
def RwPost (w : World) (t c b : Int) (L : List Wd) (y : Ending) (w' : World) : Prop := ∃ v, y = .returned (.tuple #[v, .int .i64 (redoN t c b L).2]) ∧ (∃ r, w' = ext w r) ∧ Ws w' w.heap.size v (redoN t c b L).1
theorem RwPost.bad {w w' : World} {t c b : Int} {L : List Wd} (h : redoN t c b L = ([], 1)) (hx : Ext w w') : RwPost w t c b L (.returned (.tuple #[.slice none 0 0, .int .i64 1])) w' := by
 unfold RwPost; rw [h]; exact ⟨_, rfl, hx, Own.nil⟩
theorem RwPost.good {w w' : World} {t c b : Int} {L M : List Wd} {v : Value} (h : redoN t c b L = (M, 0)) (hx : Ext w w') (hv : Ws w' w.heap.size v M) : RwPost w t c b L (.returned (.tuple #[v, .int .i64 0])) w' := by
 unfold RwPost; rw [h]; exact ⟨_, rfl, hx, hv⟩
set_option maxRecDepth 100000 in
set_option maxHeartbeats 8000000 in
theorem rwords_any (t c b : Int) (L : List Wd) (lv : Value) (hok : ∀ a ∈ L, WdOk a) (hll : L.length ≤ 10000) (w : World) (hs : Szs w) (hl : Wsl w lv L) :
 Calls Tryd.prog 19 #[.agg #[.int .i64 t, .int .i64 c, .int .i64 b], lv] w fun y w' => RwPost w t c b L y w' := by
 have HS := hid hs
 have HL := hid hl
 have HO := hid hok
 obtain ⟨a, cp, rfl, ⟨_, hcap⟩, hq⟩ := hl
 clear hq hs hok
 by_cases h1 : checkN t c b = 0
 rotate_left
 ·have HR := hid (show redoN t c b L = ([], 1) by unfold redoN; rw [if_pos (.inl h1)])
  have hb : (checkN t c b != 0) = true := by simpa using h1
  clear h1
  go_enter Tryd.func19, Tryd.ntmps19
  go_wp2_with fail
  refine (check_any t c b _ (HS.out.of (by (show Ext _ _; repeat first | (with_reducible first | (refine xH ?_; assumption) | exact xR _ | refine xX ?_ _ | refine xA ?_ _) | refine xD ?_ | refine xN ?_ _ | exact xR _)))).mono ?_
  rintro e w' ⟨rfl, r1, rfl⟩
  go_wp2_with fail
  go_ret2
  exact RwPost.bad HR.out (by (show Ext _ _; repeat first | (with_reducible first | (refine xH ?_; assumption) | exact xR _ | refine xX ?_ _ | refine xA ?_ _) | refine xD ?_ | refine xN ?_ _ | exact xR _))
 have H1 := hid h1
 have hr : rightN t c b = true := by unfold rightN; rw [h1]; rfl
 have HRt := hid hr
 obtain ⟨n, hn⟩ := Int.eq_ofNat_of_zero_le (size_le t c b).1
 have hn4 := (size_le t c b).2
 have HN := hid hn
 clear h1 hr
 by_cases h2 : L.length < n
 ·have HR := hid (show redoN t c b L = ([], 1) by unfold redoN; rw [if_pos (.inr (by rw [HN.out]; omega))])
  have hd : decide (L.length < n) = true := decide_eq_true h2
  clear hn hn4
  go_enter Tryd.func19, Tryd.ntmps19
  go_wp2_with fail
  refine (check_any t c b _ (HS.out.of (by (show Ext _ _; repeat first | (with_reducible first | (refine xH ?_; assumption) | exact xR _ | refine xX ?_ _ | refine xA ?_ _) | refine xD ?_ | refine xN ?_ _ | exact xR _)))).mono ?_
  rintro e w' ⟨rfl, r1, rfl⟩
  rw [H1.out]
  go_wp2_with fail
  refine (size_any t c b _ (HS.out.of (by (show Ext _ _; repeat first | (with_reducible first | (refine xH ?_; assumption) | exact xR _ | refine xX ?_ _ | refine xA ?_ _) | refine xD ?_ | refine xN ?_ _ | exact xR _)))).mono ?_
  rintro e w' ⟨rfl, r2, rfl⟩
  rw [HN.out]
  go_wp2_with fail
  go_ret2
  exact RwPost.bad HR.out (by (show Ext _ _; repeat first | (with_reducible first | (refine xH ?_; assumption) | exact xR _ | refine xX ?_ _ | refine xA ?_ _) | refine xD ?_ | refine xN ?_ _ | exact xR _))
 have hd : decide (L.length < n) = false := decide_eq_false h2
 have HR := hid (show redoN t c b L = (redoL t c b L, 0) by unfold redoN; rw [if_neg (by rintro (h | h); exact h H1.out; rw [HN.out] at h; omega)])
 have hnL : n ≤ L.length := by omega
 have hn8 : 8 ≤ n := by have h7 := (from_le7 (right_lok HRt.out).1).2.2.2.2; unfold sizeN at hn; rw [if_pos HRt.out] at hn; omega
 rw [hn] at hn4
 obtain ⟨N, hN⟩ : ∃ N, N = L.length := ⟨_, rfl⟩
 rw [← hN] at hnL hll hcap hd ⊢
 have HLN := hid hN.symm
 obtain ⟨ms, hms⟩ : ∃ l, l = maysL t c b := ⟨_, rfl⟩
 obtain ⟨ss, hss⟩ : ∃ l, l = statsL t c b := ⟨_, rfl⟩
 obtain ⟨os, hos⟩ : ∃ l, l = ownsL t c b := ⟨_, rfl⟩
 have HMs := hid hms.symm
 have HSs := hid hss.symm
 have HOs := hid hos.symm
 have HMl := hid (show ∀ (j p : Nat), ms[j]? = some p → p < n by intro j p hp; have := (maysL_lt (hms ▸ List.mem_of_getElem? hp)).2; omega)
 have HSl := hid (show ∀ (j p : Nat), ss[j]? = some p → p < n by intro j p hp; have := statsL_lt HRt.out (hss ▸ List.mem_of_getElem? hp); omega)
 have HOl := hid (show ∀ (j p : Nat), os[j]? = some p → p < n by intro j p hp; have := ownsL_lt HRt.out (hos ▸ List.mem_of_getElem? hp); omega)
 have hmsl : ms.length ≤ 4096 := by
  rw [hms]; unfold maysL
  have := maysTo_len t c b (sizeN t c b).toNat
  rw [hn] at this ⊢; omega
 have hssl : ss.length ≤ 100 := by
  have hk := (right_lok HRt.out).1
  rw [hss]; unfold statsL; rw [List.length_append, slotTo_len, blockTo_len]; have h1 := hk.2.1; have h2 := hk.2.2.2.2.2; omega
 have hosl : os.length ≤ 100 := by
  have hk := (right_lok HRt.out).1
  rw [hos]; unfold ownsL; rw [ownTo_len]; have h1 := hk.2.1; omega
 obtain ⟨f, hf⟩ : ∃ f : Nat → Wd, f = fun p : Nat => (logicN t c b (L.take n) (p : Int)).1 := ⟨_, rfl⟩
 have HRd := hid (show redoL t c b L = putF zeroG (putF (statG L) (putF (logG f) L ms) ss) os by unfold redoL redoW; rw [hf, hms, hss, hos, hn, Int.toNat_natCast])
 have HF := hid hf
 obtain ⟨b0, o0, rfl, hbl⟩ : ∃ b0 o0, a = some ⟨b0, o0, none⟩ ∧ b0 < w.heap.size := by
  obtain ⟨_, b0, o0, g1, g2, _⟩ := Sl.at HL.out (List.getElem?_eq_getElem (show 0 < L.length by omega))
  exact ⟨b0, o0, g1, g2⟩
 have HLs := hid (show Wsl w (.slice (some ⟨b0, o0, none⟩) n cp) (L.take n) from HL.out.take n (by omega) cp (by omega))
 have HLk := hid (show Wsl w (.slice (some ⟨b0, o0, none⟩) N cp) L by have := HL.out; rw [HLN.out] at this; exact this)
 clear hn hms hss hos hf h2 hN HL
 go_enter Tryd.func19, Tryd.ntmps19
 go_wp2_with fail
 refine (check_any t c b _ (HS.out.of (by (show Ext _ _; repeat first | (with_reducible first | (refine xH ?_; assumption) | exact xR _ | refine xX ?_ _ | refine xA ?_ _) | refine xD ?_ | refine xN ?_ _ | exact xR _)))).mono ?_
 rintro e w' ⟨rfl, r1, rfl⟩
 rw [H1.out]
 go_wp2_with fail
 refine (size_any t c b _ (HS.out.of (by (show Ext _ _; repeat first | (with_reducible first | (refine xH ?_; assumption) | exact xR _ | refine xX ?_ _ | refine xA ?_ _) | refine xD ?_ | refine xN ?_ _ | exact xR _)))).mono ?_
 rintro e w' ⟨rfl, r2, rfl⟩
 rw [HN.out]
 go_wp2_with fail
 refine (clone_any L _ _ (by rw [HLN.out]; omega) (HLk.out.of wdE_len (by (show Ext _ _; repeat first | (with_reducible first | (refine xH ?_; assumption) | exact xR _ | refine xX ?_ _ | refine xA ?_ _) | refine xD ?_ | refine xN ?_ _ | exact xR _)))).mono ?_
 rintro e w' ⟨v6, rfl, ⟨r3, rfl⟩, hv6⟩
 obtain ⟨g, cg, rfl, hg0, hg1⟩ := Ws.open hv6 (by rw [HLN.out]; omega)
 rw [HLN.out] at hv6 ⊢
 go_wp2_with fail
 refine (may25_any t c b _ (HS.out.of (by (show Ext _ _; repeat first | (with_reducible first | (refine xH ?_; assumption) | exact xR _ | refine xX ?_ _ | refine xA ?_ _) | refine xD ?_ | refine xN ?_ _ | exact xR _)))).mono ?_
 rintro e w' ⟨v26, rfl, ⟨r4, rfl⟩, hv26⟩
 rw [HMs.out] at hv26
 have hap := Own.apart hv26 hg1
 have hSM := Sl.of_own locE_len hv26
 obtain ⟨am, cm, rfl⟩ := Own.shape hv26
 go_wp2_with fail
 generalize hU : ext _ r4 = U at *
 have HEU := hid (show Ext w U by rw [← hU]; (show Ext _ _; repeat first | (with_reducible first | (refine xH ?_; assumption) | exact xR _ | refine xX ?_ _ | refine xA ?_ _) | refine xD ?_ | refine xN ?_ _ | exact xR _))
 have HBl := hid (show Blk U w.heap.size [.int .i64 t, .int .i64 c, .int .i64 b] by rw [← hU]; (show Blk _ _ _; repeat first | (with_reducible first | (refine xH ?_; assumption) | refine bD ?_ | refine bX ?_ _) | (with_reducible refine bN _ _ rfl ?_; first | with_reducible rfl | (simp; done)) | (with_reducible first | refine bA ?_ _ | assumption | apply bS) | (with_reducible refine bO ?_ ?_; first | omega | (simp; omega)) | (show List.set _ _ _ = _; exact rfl) | (show _ < List.length _; simp; done)))
 have HGo := hid (show Ws U w.heap.size (.slice (some ⟨g, 0, none⟩) N cg) L from by
  have h := Own.mono hv6 (show w.heap.size ≤ _ by simp; omega)
  rw [← hU]
  exact Ws.of h (by (show Ext _ _; repeat first | (with_reducible first | (refine xH ?_; assumption) | exact xR _ | refine xX ?_ _ | refine xA ?_ _) | refine xD ?_ | refine xN ?_ _ | exact xR _)))
 have HSM := hid hSM
 have HAp := hid hap
 have hgw : w.heap.size < g := by simp at hg0; omega
 have hgU : g < U.heap.size := by rw [← hU]; simp at hg1 ⊢; omega
 clear hU hv6 hv26 hg0 hg1 hap hSM
 go_loopw [28] (fun i wr => ∃ j : Nat, j ≤ ms.length ∧ i = .int .i64 j ∧ Hid (Ws wr w.heap.size (.slice (some ⟨g, 0, none⟩) N cg) (putF (logG f) L (ms.take j))) ∧ Hid (Grn g U wr)) (fun i _ => ms.length - (intOf i).toNat)
 case atStart => exact ⟨0, by omega, rfl, HGo, hid Grn.refl⟩
 case round =>
 clear HGo
 obtain ⟨j, hj, rfl, HW, HG⟩ := hrel
 have hUs := HEU.out.size
 have HEw := hid (HEU.out.grn HG.out (by omega))
 have HBw := hid (HBl.out.grn HG.out (by omega))
 have hgr : g < wr.heap.size := Nat.lt_of_lt_of_le hgU HG.out.size
 obtain ⟨l0, l1, l2⟩ := HBw.out.three
 have l4 := HBw.out.1
 by_cases hjl : j < ms.length
 ·have hdj : decide (j < ms.length) = true := decide_eq_true hjl
  have hji : (j : Int) < (ms.length : Int) := by omega
  obtain ⟨p, hp⟩ : ∃ p, ms[j]? = some p := ⟨_, List.getElem?_eq_getElem hjl⟩
  have HNx := hid (putF_take (g := logG f) (L := L) hp)
  obtain ⟨_, bm, om, hab, hbm, hcm⟩ := Sl.at (HSM.out.grnV locE_len HG.out HAp.out) hp
  subst hab
  have k0 := hcm 0 (by omega)
  simp [locE] at k0
  have hpn := HMl.out j p hp
  have hlen : (putF (logG f) L (ms.take j)).length = N := by rw [putF_len, HLN.out]
  obtain ⟨⟨y1, y2, y3⟩, hy⟩ : ∃ y, (putF (logG f) L (ms.take j))[p]? = some y := ⟨_, List.getElem?_eq_getElem (by rw [hlen]; omega)⟩
  obtain ⟨m0, m1, m2⟩ := Ws.cells HW.out hy
  have f0 := Ws.free HW.out (p * 3)
  have f1 := Ws.free HW.out (p * 3 + 1)
  have f2 := Ws.free HW.out (p * 3 + 2)
  have HLn := hid hlen
  obtain ⟨⟨⟨x1, x2, x3⟩, xe⟩, hx⟩ : ∃ x, x = logicN t c b (L.take n) p := ⟨_, rfl⟩
  have HLx := hid hx.symm
  have HPu := hid (show put1 (logG f) (putF (logG f) L (ms.take j)) p = (putF (logG f) L (ms.take j)).set p (x1, x2, x3) from logG_put _ _ _ (by rw [HF.out]; dsimp only; rw [← hx]))
  have t2 : (p : Int) < (N : Int) := by omega
  have t3 : (n : Int) ≤ (cp : Int) := by omega
  clear hcm hy hlen hx hp
  go_upto_region 7 with fail
  refine wp_region_held_drew (S := fun w' => w'.cell? ⟨w.heap.size, 0, none⟩ = some (.int .i64 t) ∧ w'.cell? ⟨w.heap.size, 1, none⟩ = some (.int .i64 c) ∧ w'.cell? ⟨w.heap.size, 2, none⟩ = some (.int .i64 b)) (by kernel_rfl) (by exact ⟨(show Grn g wr _ from by (show Grn _ _ _; repeat (first | with_reducible exact Grn.refl | with_reducible refine Grn.setCell ?_ _ _ | with_reducible refine Grn.ext ?_ _ | with_reducible refine Grn.alloc ?_ _ | with_reducible refine Grn.drew ?_))).cell (by omega) l0, (show Grn g wr _ from by (show Grn _ _ _; repeat (first | with_reducible exact Grn.refl | with_reducible refine Grn.setCell ?_ _ _ | with_reducible refine Grn.ext ?_ _ | with_reducible refine Grn.alloc ?_ _ | with_reducible refine Grn.drew ?_))).cell (by omega) l1, (show Grn g wr _ from by (show Grn _ _ _; repeat (first | with_reducible exact Grn.refl | with_reducible refine Grn.setCell ?_ _ _ | with_reducible refine Grn.ext ?_ _ | with_reducible refine Grn.alloc ?_ _ | with_reducible refine Grn.drew ?_))).cell (by omega) l2⟩) (fun hHeld => ?_)
  refine take_met 0 (oi := ⟨_, _, _, _, _, _⟩) (v := ?_) (by kernel_rfl) rfl (by rfl) (fun _ _ _ h => h) (by assumption) ?_ ?_
  rotate_left 1
  ·intro w hSw
   try dsimp only at hSw
   go_simp
   try with_reducible rfl
  (try simp only [Act.put, pA, pB, pC])
  refine take_met 1 (oi := ⟨_, _, _, _, _, _⟩) (v := ?_) (by kernel_rfl) rfl (by rfl) (fun _ _ _ h => h) (by assumption) ?_ ?_
  rotate_left 1
  ·intro w hSw
   try dsimp only at hSw
   go_simp
   try with_reducible rfl
  (try simp only [Act.put, pA, pB, pC])
  refine take_met 2 (oi := ⟨_, _, _, _, _, _⟩) (v := ?_) (by kernel_rfl) rfl (by rfl) (fun _ _ _ h => h) (by assumption) ?_ ?_
  rotate_left 1
  ·intro w hSw
   try dsimp only at hSw
   go_simp
   try with_reducible rfl
  (try simp only [Act.put, pA, pB, pC])
  refine take_met 3 (oi := ⟨_, _, _, _, _, _⟩) (v := ?_) (by kernel_rfl) rfl (by rfl) (fun _ _ _ h => h) (by assumption) ?_ ?_
  rotate_left 1
  ·intro w hSw
   try dsimp only at hSw
   go_simp
   try with_reducible rfl
  (try simp only [Act.put, pA, pB, pC])
  refine take_met 4 (oi := ⟨_, _, _, _, _, _⟩) (v := ?_) (by kernel_rfl) rfl (by rfl) (fun _ _ _ h => h) (by assumption) ?_ ?_
  rotate_left 1
  ·intro w hSw
   try dsimp only at hSw
   go_simp
   try with_reducible rfl
  (try simp only [Act.put, pA, pB, pC])
  refine take_met 7 (oi := ⟨_, _, _, _, _, _⟩) (v := ?_) (by kernel_rfl) rfl (by rfl) (fun _ _ _ h => h) (by assumption) ?_ ?_
  rotate_left 1
  ·intro w hSw
   try dsimp only at hSw
   go_simp
   try with_reducible rfl
  (try simp only [Act.put, pA, pB, pC])
  refine take_only 5 (oi := ⟨_, _, _, _, _, _⟩) (by kernel_rfl) rfl (fun K hK => ?_)
  go_simp
  first
   | (go_at_call 14; refine (size_any t c b _ (HS.out.of (HEw.out.trans (by (show Ext _ _; repeat first | (with_reducible first | (refine xH ?_; assumption) | exact xR _ | refine xX ?_ _ | refine xA ?_ _) | refine xD ?_ | refine xN ?_ _ | exact xR _))))).mono ?_; rintro e w' ⟨rfl, r5, rfl⟩; rw [HN.out])
  have hOld := hHeld
  clear hHeld
  refine hK.out _ _ (by exact ⟨(show Grn g wr _ from by (show Grn _ _ _; repeat (first | with_reducible exact Grn.refl | with_reducible refine Grn.setCell ?_ _ _ | with_reducible refine Grn.ext ?_ _ | with_reducible refine Grn.alloc ?_ _ | with_reducible refine Grn.drew ?_))).cell (by omega) l0, (show Grn g wr _ from by (show Grn _ _ _; repeat (first | with_reducible exact Grn.refl | with_reducible refine Grn.setCell ?_ _ _ | with_reducible refine Grn.ext ?_ _ | with_reducible refine Grn.alloc ?_ _ | with_reducible refine Grn.drew ?_))).cell (by omega) l1, (show Grn g wr _ from by (show Grn _ _ _; repeat (first | with_reducible exact Grn.refl | with_reducible refine Grn.setCell ?_ _ _ | with_reducible refine Grn.ext ?_ _ | with_reducible refine Grn.alloc ?_ _ | with_reducible refine Grn.drew ?_))).cell (by omega) l2⟩) (fun hHeld => ?_)
  clear hOld hK K
  (try simp only [Act.put, pA, pB, pC])
  refine take_met 6 (oi := ⟨_, _, _, _, _, _⟩) (v := ?_) (by kernel_rfl) rfl (by rfl) (fun _ _ _ h => h) (by assumption) ?_ ?_
  rotate_left 1
  ·intro w hSw
   try dsimp only at hSw
   go_simp
   try with_reducible rfl
  (try simp only [Act.put, pA, pB, pC])
  refine take_only 8 (oi := ⟨_, _, _, _, _, _⟩) (by kernel_rfl) rfl (fun K hK => ?_)
  go_simp
  first
   | (go_at_call 47; refine (logical_any t c b p (by omega) (by omega) (L.take n) _ (fun a ha => HO.out a (List.mem_of_mem_take ha)) _ (HS.out.of (HEw.out.trans (by (show Ext _ _; repeat first | (with_reducible first | (refine xH ?_; assumption) | exact xR _ | refine xX ?_ _ | refine xA ?_ _) | refine xD ?_ | refine xN ?_ _ | exact xR _)))) (HLs.out.of wdE_len (HEw.out.trans (by (show Ext _ _; repeat first | (with_reducible first | (refine xH ?_; assumption) | exact xR _ | refine xX ?_ _ | refine xA ?_ _) | refine xD ?_ | refine xN ?_ _ | exact xR _))))).mono ?_; rintro y w' ⟨rfl, r6, rfl⟩; rw [HLx.out]; dsimp only)
  have hOld := hHeld
  clear hHeld
  refine hK.out _ _ (by exact ⟨(show Grn g wr _ from by (show Grn _ _ _; repeat (first | with_reducible exact Grn.refl | with_reducible refine Grn.setCell ?_ _ _ | with_reducible refine Grn.ext ?_ _ | with_reducible refine Grn.alloc ?_ _ | with_reducible refine Grn.drew ?_))).cell (by omega) l0, (show Grn g wr _ from by (show Grn _ _ _; repeat (first | with_reducible exact Grn.refl | with_reducible refine Grn.setCell ?_ _ _ | with_reducible refine Grn.ext ?_ _ | with_reducible refine Grn.alloc ?_ _ | with_reducible refine Grn.drew ?_))).cell (by omega) l1, (show Grn g wr _ from by (show Grn _ _ _; repeat (first | with_reducible exact Grn.refl | with_reducible refine Grn.setCell ?_ _ _ | with_reducible refine Grn.ext ?_ _ | with_reducible refine Grn.alloc ?_ _ | with_reducible refine Grn.drew ?_))).cell (by omega) l2⟩) (fun hHeld => ?_)
  clear hOld hK K
  (try simp only [Act.put, pA, pB, pC])
  refine take_met 9 (oi := ⟨_, _, _, _, _, _⟩) (v := ?_) (by kernel_rfl) rfl (by rfl) (fun _ _ _ h => h) (by assumption) ?_ ?_
  rotate_left 1
  ·intro w hSw
   try dsimp only at hSw
   go_simp
   try with_reducible rfl
  (try simp only [Act.put, pA, pB, pC])
  refine take_met 10 (oi := ⟨_, _, _, _, _, _⟩) (v := ?_) (by kernel_rfl) rfl (by rfl) (fun _ _ _ h => h) (by assumption) ?_ ?_
  rotate_left 1
  ·intro w hSw
   try dsimp only at hSw
   go_simp
   try with_reducible rfl
  (try simp only [Act.put, pA, pB, pC])
  refine take_met 11 (oi := ⟨_, _, _, _, _, _⟩) (v := ?_) (by kernel_rfl) rfl (by rfl) (fun _ _ _ h => h) (by assumption) ?_ ?_
  rotate_left 1
  ·intro w hSw
   try dsimp only at hSw
   go_simp
   try with_reducible rfl
  (try simp only [Act.put, pA, pB, pC])
  refine take_met 12 (oi := ⟨_, _, _, _, _, _⟩) (v := ?_) (by kernel_rfl) rfl (by rfl) (fun _ _ _ h => h) (by assumption) ?_ ?_
  rotate_left 1
  ·intro w hSw
   try dsimp only at hSw
   go_simp
   try with_reducible rfl
  (try simp only [Act.put, pA, pB, pC])
  refine take_only 13 (oi := ⟨_, _, _, _, _, _⟩) (by kernel_rfl) rfl (fun K hK => ?_)
  go_simp
  have hOld := hHeld
  clear hHeld
  refine hK.out _ _ (by exact ⟨(show Grn g wr _ from by (show Grn _ _ _; repeat (first | with_reducible exact Grn.refl | with_reducible refine Grn.setCell ?_ _ _ | with_reducible refine Grn.ext ?_ _ | with_reducible refine Grn.alloc ?_ _ | with_reducible refine Grn.drew ?_))).cell (by omega) l0, (show Grn g wr _ from by (show Grn _ _ _; repeat (first | with_reducible exact Grn.refl | with_reducible refine Grn.setCell ?_ _ _ | with_reducible refine Grn.ext ?_ _ | with_reducible refine Grn.alloc ?_ _ | with_reducible refine Grn.drew ?_))).cell (by omega) l1, (show Grn g wr _ from by (show Grn _ _ _; repeat (first | with_reducible exact Grn.refl | with_reducible refine Grn.setCell ?_ _ _ | with_reducible refine Grn.ext ?_ _ | with_reducible refine Grn.alloc ?_ _ | with_reducible refine Grn.drew ?_))).cell (by omega) l2⟩) (fun hHeld => ?_)
  clear hOld hK K
  (try simp only [Act.put, pA, pB, pC])
  refine wpAnyH_done (by kernel_rfl) ?_ _
  go_wp2_with fail
  go_roundw
  case rel => exact ⟨j + 1, by omega, by go_num, hid (by rw [HNx.out, HPu.out]; exact Ws.put (HW.out.of (by (show Ext _ _; repeat first | (with_reducible first | (refine xH ?_; assumption) | exact xR _ | refine xX ?_ _ | refine xA ?_ _) | refine xD ?_ | refine xN ?_ _ | exact xR _))) (by rw [HLn.out]; omega) x1 x2 x3), hid ((((HG.out.trans (Grn.of_ext (by (show Ext _ _; repeat first | (with_reducible first | (refine xH ?_; assumption) | exact xR _ | refine xX ?_ _ | refine xA ?_ _) | refine xD ?_ | refine xN ?_ _ | exact xR _)))).setCell _ _).setCell _ _).setCell _ _)⟩
  case measure => simp [intOf]; omega
 have hdj : decide (j < ms.length) = false := decide_eq_false hjl
 obtain rfl : j = ms.length := by omega
 rw [List.take_length] at HW
 obtain ⟨L1, hL1⟩ : ∃ M, M = putF (logG f) L ms := ⟨_, rfl⟩
 rw [← hL1] at HW
 have HL1 := hid hL1.symm
 have HL1n := hid (show L1.length = N by rw [hL1, putF_len, HLN.out])
 clear hL1 hj hjl
 go_wp2_with fail
 refine (stats25_any t c b HRt.out _ (HS.out.of (HEw.out.trans (by (show Ext _ _; repeat first | (with_reducible first | (refine xH ?_; assumption) | exact xR _ | refine xX ?_ _ | refine xA ?_ _) | refine xD ?_ | refine xN ?_ _ | exact xR _))))).mono ?_
 rintro e w' ⟨v47, rfl, ⟨r7, rfl⟩, hv47⟩
 rw [HSs.out] at hv47
 have hap := Own.apart hv47 hgr
 have hSM := Sl.of_own locE_len hv47
 obtain ⟨aS, cS, rfl⟩ := Own.shape hv47
 go_wp2_with fail
 generalize hV : ext _ r7 = V at *
 have HEV0 := hid (show Ext wr V by rw [← hV]; (show Ext _ _; repeat first | (with_reducible first | (refine xH ?_; assumption) | exact xR _ | refine xX ?_ _ | refine xA ?_ _) | refine xD ?_ | refine xN ?_ _ | exact xR _))
 have HEV := hid (HEw.out.trans HEV0.out)
 have HBV := hid (HBw.out.of HEV0.out)
 have HWV := hid (HW.out.of HEV0.out)
 have HSM2 := hid hSM
 have HAp2 := hid hap
 have hgV : g < V.heap.size := Nat.lt_of_lt_of_le hgr HEV0.out.size
 clear hV hv47 hap hSM HW HG HEw HBw hgr l0 l1 l2 l4 HEV0 HSM HAp hgU
 go_loopw [49] (fun i wr => ∃ j : Nat, j ≤ ss.length ∧ i = .int .i64 j ∧ Hid (Ws wr w.heap.size (.slice (some ⟨g, 0, none⟩) N cg) (putF (statG L) L1 (ss.take j))) ∧ Hid (Grn g V wr)) (fun i _ => ss.length - (intOf i).toNat)
 case atStart => exact ⟨0, by omega, rfl, HWV, hid Grn.refl⟩
 case round =>
 clear HWV
 obtain ⟨j, hj, rfl, HW, HG⟩ := hrel
 have hVs := HEV.out.size
 have HEw := hid (HEV.out.grn HG.out (by omega))
 have HBw := hid (HBV.out.grn HG.out (by omega))
 have hgr : g < wr.heap.size := Nat.lt_of_lt_of_le hgV HG.out.size
 obtain ⟨l0, l1, l2⟩ := HBw.out.three
 have l4 := HBw.out.1
 by_cases hjl : j < ss.length
 ·have hdj : decide (j < ss.length) = true := decide_eq_true hjl
  have hji : (j : Int) < (ss.length : Int) := by omega
  obtain ⟨p, hp⟩ : ∃ p, ss[j]? = some p := ⟨_, List.getElem?_eq_getElem hjl⟩
  have HNx := hid (putF_take (g := statG L) (L := L1) hp)
  obtain ⟨_, bm, om, hab, hbm, hcm⟩ := Sl.at (HSM2.out.grnV locE_len HG.out HAp2.out) hp
  subst hab
  have k0 := hcm 0 (by omega)
  simp [locE] at k0
  have hpn := HSl.out j p hp
  have hlen : (putF (statG L) L1 (ss.take j)).length = N := by rw [putF_len, HL1n.out]
  obtain ⟨⟨y1, y2, y3⟩, hy⟩ : ∃ y, (putF (statG L) L1 (ss.take j))[p]? = some y := ⟨_, List.getElem?_eq_getElem (by rw [hlen]; omega)⟩
  obtain ⟨m0, m1, m2⟩ := Ws.cells HW.out hy
  have f0 := Ws.free HW.out (p * 3)
  have f1 := Ws.free HW.out (p * 3 + 1)
  have f2 := Ws.free HW.out (p * 3 + 2)
  have HLn := hid hlen
  obtain ⟨⟨x1, x2, x3⟩, hx⟩ : ∃ x, L[p]? = some x := ⟨_, List.getElem?_eq_getElem (by rw [HLN.out]; omega)⟩
  obtain ⟨hq5, b5, o5, hab, hb5, hc5⟩ := Sl.at (HLk.out.of wdE_len HEw.out) hx
  cases hab
  clear hq5
  have q0 := hc5 0 (by omega)
  have q1 := hc5 1 (by omega)
  have q2 := hc5 2 (by omega)
  simp [wdE] at q0 q1 q2
  have hxo := HO.out _ (List.mem_of_getElem? hx)
  have hx2 := hxo.2.1
  dsimp only at hx2
  have t2 : (p : Int) < (N : Int) := by omega
  cases hu : undB (x1, x2, x3)
  ·have HU := hid hu
   have HPu := hid (statG_no (M := putF (statG L) L1 (ss.take j)) hx hu)
   clear hcm hy hlen hp hx hc5 hxo hu
   go_wp2_with fail
   refine (und_any x1 x2 x3 _).mono ?_
   rintro e w' ⟨rfl, r8, rfl⟩
   rw [HU.out]
   go_wp2_with fail
   go_roundw
   case rel => exact ⟨j + 1, by omega, by go_num, hid (by rw [HNx.out, HPu.out]; exact HW.out.of (by (show Ext _ _; repeat first | (with_reducible first | (refine xH ?_; assumption) | exact xR _ | refine xX ?_ _ | refine xA ?_ _) | refine xD ?_ | refine xN ?_ _ | exact xR _))), hid (HG.out.trans (Grn.of_ext (by (show Ext _ _; repeat first | (with_reducible first | (refine xH ?_; assumption) | exact xR _ | refine xX ?_ _ | refine xA ?_ _) | refine xD ?_ | refine xN ?_ _ | exact xR _))))⟩
   case measure => simp [intOf]; omega
  ·have HU := hid hu
   have HPu := hid (statG_yes (M := putF (statG L) L1 (ss.take j)) hx hu)
   clear hcm hy hlen hp hx hc5 hxo hu
   go_wp2_with fail
   refine (und_any x1 x2 x3 _).mono ?_
   rintro e w' ⟨rfl, r8, rfl⟩
   rw [HU.out]
   go_wp2_with fail
   refine (failed_any x1 x2 x3 hx2.1 hx2.2 _).mono ?_
   rintro e w' ⟨rfl, r9, rfl⟩
   go_wp2_with fail
   go_roundw
   case rel => exact ⟨j + 1, by omega, by go_num, hid (by rw [HNx.out, HPu.out]; exact Ws.put (HW.out.of (by (show Ext _ _; repeat first | (with_reducible first | (refine xH ?_; assumption) | exact xR _ | refine xX ?_ _ | refine xA ?_ _) | refine xD ?_ | refine xN ?_ _ | exact xR _))) (by rw [HLn.out]; omega) 2 x2 0), hid ((((HG.out.trans (Grn.of_ext (by (show Ext _ _; repeat first | (with_reducible first | (refine xH ?_; assumption) | exact xR _ | refine xX ?_ _ | refine xA ?_ _) | refine xD ?_ | refine xN ?_ _ | exact xR _)))).setCell _ _).setCell _ _).setCell _ _)⟩
   case measure => simp [intOf]; omega
 have hdj : decide (j < ss.length) = false := decide_eq_false hjl
 obtain rfl : j = ss.length := by omega
 rw [List.take_length] at HW
 obtain ⟨L2, hL2⟩ : ∃ M, M = putF (statG L) L1 ss := ⟨_, rfl⟩
 rw [← hL2] at HW
 have HL2 := hid hL2.symm
 have HL2n := hid (show L2.length = N by rw [hL2, putF_len, HL1n.out])
 clear hL2 hj hjl
 go_wp2_with fail
 refine (owns25_any t c b HRt.out _ (HS.out.of (HEw.out.trans (by (show Ext _ _; repeat first | (with_reducible first | (refine xH ?_; assumption) | exact xR _ | refine xX ?_ _ | refine xA ?_ _) | refine xD ?_ | refine xN ?_ _ | exact xR _))))).mono ?_
 rintro e w' ⟨v68, rfl, ⟨r10, rfl⟩, hv68⟩
 rw [HOs.out] at hv68
 have hap := Own.apart hv68 hgr
 have hSM := Sl.of_own locE_len hv68
 obtain ⟨ao, co, rfl⟩ := Own.shape hv68
 go_wp2_with fail
 generalize hZ : ext _ r10 = Z at *
 have HEZ0 := hid (show Ext wr Z by rw [← hZ]; (show Ext _ _; repeat first | (with_reducible first | (refine xH ?_; assumption) | exact xR _ | refine xX ?_ _ | refine xA ?_ _) | refine xD ?_ | refine xN ?_ _ | exact xR _))
 have HEZ := hid (HEw.out.trans HEZ0.out)
 have HWZ := hid (HW.out.of HEZ0.out)
 have HSM3 := hid hSM
 have HAp3 := hid hap
 have hgZ : g < Z.heap.size := Nat.lt_of_lt_of_le hgr HEZ0.out.size
 clear hZ hv68 hap hSM HW HG HEw HBw hgr l0 l1 l2 l4 HEZ0 HSM2 HAp2 hgV
 go_loopw [70] (fun i wr => ∃ j : Nat, j ≤ os.length ∧ i = .int .i64 j ∧ Hid (Ws wr w.heap.size (.slice (some ⟨g, 0, none⟩) N cg) (putF zeroG L2 (os.take j))) ∧ Hid (Grn g Z wr)) (fun i _ => os.length - (intOf i).toNat)
 case atStart => exact ⟨0, by omega, rfl, HWZ, hid Grn.refl⟩
 case round =>
 clear HWZ
 obtain ⟨j, hj, rfl, HW, HG⟩ := hrel
 have hZs := HEZ.out.size
 have HEw := hid (HEZ.out.grn HG.out (by omega))
 have hgr : g < wr.heap.size := Nat.lt_of_lt_of_le hgZ HG.out.size
 by_cases hjl : j < os.length
 ·have hdj : decide (j < os.length) = true := decide_eq_true hjl
  have hji : (j : Int) < (os.length : Int) := by omega
  obtain ⟨p, hp⟩ : ∃ p, os[j]? = some p := ⟨_, List.getElem?_eq_getElem hjl⟩
  have HNx := hid (putF_take (g := zeroG) (L := L2) hp)
  obtain ⟨_, bm, om, hab, hbm, hcm⟩ := Sl.at (HSM3.out.grnV locE_len HG.out HAp3.out) hp
  subst hab
  have k0 := hcm 0 (by omega)
  simp [locE] at k0
  have hpn := HOl.out j p hp
  have hlen : (putF zeroG L2 (os.take j)).length = N := by rw [putF_len, HL2n.out]
  obtain ⟨⟨y1, y2, y3⟩, hy⟩ : ∃ y, (putF zeroG L2 (os.take j))[p]? = some y := ⟨_, List.getElem?_eq_getElem (by rw [hlen]; omega)⟩
  obtain ⟨m0, m1, m2⟩ := Ws.cells HW.out hy
  have f0 := Ws.free HW.out (p * 3)
  have f1 := Ws.free HW.out (p * 3 + 1)
  have f2 := Ws.free HW.out (p * 3 + 2)
  have HLn := hid hlen
  have t2 : (p : Int) < (N : Int) := by omega
  clear hcm hy hlen hp
  go_wp2_with fail
  go_roundw
  case rel => exact ⟨j + 1, by omega, by go_num, hid (by rw [HNx.out, zeroG_put]; exact Ws.put HW.out (by rw [HLn.out]; omega) 0 0 0), hid (((HG.out.setCell _ _).setCell _ _).setCell _ _)⟩
  case measure => simp [intOf]; omega
 have hdj : decide (j < os.length) = false := decide_eq_false hjl
 obtain rfl : j = os.length := by omega
 rw [List.take_length] at HW
 go_wp2_with fail
 go_ret2
 exact RwPost.good HR.out HEw.out (by rw [HRd.out, HL1.out, HL2.out]; exact HW.out)
end Go.Proofs.YtdpbcfjfnclpiaaDoor
