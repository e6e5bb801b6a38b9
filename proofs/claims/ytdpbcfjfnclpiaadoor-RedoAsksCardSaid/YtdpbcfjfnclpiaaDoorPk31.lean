/- Walks of the reference's Who and plain (simulcastref01, simulcastref25). -/
import Derived.Test.YtdpbcfjfnclpiaaDoorPk30
namespace Go.Proofs.YtdpbcfjfnclpiaaDoor
set_option linter.unusedSimpArgs false
set_option linter.unusedVariables false
open Go.RowKit
theorem tdiv_pos {a b : Int} (h : 0 ≤ a) : Int.tdiv a b = a / b := Int.tdiv_eq_ediv_of_nonneg h
theorem tmod_pos {a b : Int} (h : 0 ≤ a) : Int.tmod a b = a % b := Int.tmod_eq_emod_of_nonneg h
set_option maxHeartbeats 1000000 in
theorem rwho_any (ref : Int) (h0 : 0 ≤ ref) (h1 : ref ≤ 4294967295) (w : World) :
 Calls Tryd.prog 30 #[.int .u32 ref] w fun e w' => e = .returned (.tuple #[.int .i64 (whoN ref).1, .int .i64 (whoN ref).2]) ∧ ∃ r, w' = ext w r := by
 obtain ⟨a, ha⟩ : ∃ a, a = ref / 16777216 := ⟨_, rfl⟩
 obtain ⟨b, hb⟩ : ∃ b, b = ref % 16777216 := ⟨_, rfl⟩
 have e1 : Int.tdiv ref 16777216 = a := by rw [tdiv_pos h0, ha]
 have e2 : Int.tmod ref 16777216 = b := by rw [tmod_pos h0, hb]
 have ha0 : 0 ≤ a ∧ a ≤ 255 := by omega
 have hb0 : 0 ≤ b ∧ b ≤ 16777215 := by omega
 have w1 : wrap64 a = a := IntWalk.wrap64_in _ ⟨by omega, by omega⟩
 have w2 : wrap64 b = b := IntWalk.wrap64_in _ ⟨by omega, by omega⟩
 have HW := hid (show whoN ref = if 1 ≤ a ∧ a ≤ 72 ∧ 1 ≤ b then (a, b) else (0, 0) by unfold whoN; rw [ha, hb])
 have u1 : IntKind.u32.wrap a = a := wraps_u32w a (by omega) (by omega)
 have u2 : IntKind.u32.wrap b = b := wraps_u32w b (by omega) (by omega)
 clear ha hb
 obtain ⟨ha0, ha1⟩ := ha0
 obtain ⟨hb0, hb1⟩ := hb0
 by_cases c1 : a < 1
 ·have d1 : decide (a < 1) = true := decide_eq_true c1
  have HR := hid (show whoN ref = (0, 0) by rw [HW.out, if_neg (by omega)])
  go_enter Tryd.func30, Tryd.ntmps30
  go_wp2_with fail
  go_ret2
  exact ⟨by rw [HR.out]; rfl, by (show Ext _ _; repeat first | (with_reducible first | (refine xH ?_; assumption) | exact xR _ | refine xX ?_ _ | refine xA ?_ _) | refine xD ?_ | refine xN ?_ _ | exact xR _)⟩
 ·have d1 : decide (a < 1) = false := decide_eq_false c1
  by_cases c2 : 72 < a
  ·have d2 : decide (72 < a) = true := decide_eq_true c2
   have HR := hid (show whoN ref = (0, 0) by rw [HW.out, if_neg (by omega)])
   go_enter Tryd.func30, Tryd.ntmps30
   go_wp2_with fail
   go_ret2
   exact ⟨by rw [HR.out]; rfl, by (show Ext _ _; repeat first | (with_reducible first | (refine xH ?_; assumption) | exact xR _ | refine xX ?_ _ | refine xA ?_ _) | refine xD ?_ | refine xN ?_ _ | exact xR _)⟩
  ·have d2 : decide (72 < a) = false := decide_eq_false c2
   by_cases c3 : b < 1
   ·have d3 : decide (b < 1) = true := decide_eq_true c3
    have HR := hid (show whoN ref = (0, 0) by rw [HW.out, if_neg (by omega)])
    go_enter Tryd.func30, Tryd.ntmps30
    go_wp2_with fail
    go_ret2
    exact ⟨by rw [HR.out]; rfl, by (show Ext _ _; repeat first | (with_reducible first | (refine xH ?_; assumption) | exact xR _ | refine xX ?_ _ | refine xA ?_ _) | refine xD ?_ | refine xN ?_ _ | exact xR _)⟩
   ·have d3 : decide (b < 1) = false := decide_eq_false c3
    have HR := hid (show whoN ref = (a, b) by rw [HW.out, if_pos (by omega)])
    go_enter Tryd.func30, Tryd.ntmps30
    go_wp2_with fail
    go_ret2
    exact ⟨by rw [HR.out]; rfl, by (show Ext _ _; repeat first | (with_reducible first | (refine xH ?_; assumption) | exact xR _ | refine xX ?_ _ | refine xA ?_ _) | refine xD ?_ | refine xN ?_ _ | exact xR _)⟩
theorem layAt_snoc : ∀ (l : List Wd) (w : List Wd) (f : Nat) (x : Wd), layAt w f (l ++ [x]) = (layAt w f l).set (f + l.length) x
 | [], w, f, x => rfl
 | y :: r, w, f, x => by
  rw [List.cons_append, layAt, layAt, layAt_snoc r _ (f + 1) x, List.length_cons, show f + 1 + r.length = f + (r.length + 1) by omega]
theorem layAt_len : ∀ (l : List Wd) (w : List Wd) (f : Nat), (layAt w f l).length = w.length
 | [], _, _ => rfl
 | y :: r, w, f => by rw [layAt, layAt_len r, List.length_set]
theorem layAt_ok : ∀ (l : List Wd) (w : List Wd) (f : Nat), (∀ a ∈ w, WdOk a) → (∀ a ∈ l, WdOk a) → ∀ a ∈ layAt w f l, WdOk a
 | [], _, _, hw, _ => hw
 | y :: r, w, f, hw, hl => layAt_ok r _ _ (set_ok hw (hl y (List.mem_cons_self ..)) _) (fun a ha => hl a (List.mem_cons_of_mem _ ha))
theorem rep_ok (n : Nat) : ∀ a ∈ List.replicate n ((0, 0, 0) : Wd), WdOk a := fun a ha => by rw [List.eq_of_mem_replicate ha]; exact wdOk0 0 (by omega)
def imgT (N : Nat) (m : Int) (f : Nat) (ld : List Wd) (j : Nat) : List Wd := if 0 < m then layAt (List.replicate N (0, 0, 0)) f (ld.take j) else List.replicate N (0, 0, 0)
theorem imgT_len (N : Nat) (m : Int) (f : Nat) (ld : List Wd) (j : Nat) : (imgT N m f ld j).length = N := by
 unfold imgT; split
 ·rw [layAt_len, List.length_replicate]
 ·rw [List.length_replicate]
theorem imgT_ok {N : Nat} {m : Int} {f : Nat} {ld : List Wd} {j : Nat} (h : ∀ a ∈ ld, WdOk a) : ∀ a ∈ imgT N m f ld j, WdOk a := by
 unfold imgT; split
 ·exact layAt_ok _ _ _ (rep_ok N) (fun a ha => h a (List.mem_of_mem_take ha))
 ·exact rep_ok N
theorem imgT_succ {N : Nat} {m : Int} {f : Nat} {ld : List Wd} {j : Nat} {x : Wd} (hm : 0 < m) (hx : ld[j]? = some x) : imgT N m f ld (j + 1) = (imgT N m f ld j).set (f + j) x := by
 obtain ⟨h1, h2⟩ := List.getElem?_eq_some_iff.1 hx
 unfold imgT
 rw [if_pos hm, if_pos hm, List.take_succ_eq_append_getElem h1, layAt_snoc, List.length_take, Nat.min_eq_left (by omega), h2]
theorem whoN_bd (z : Int) : 0 ≤ (whoN z).1 ∧ (whoN z).1 ≤ 72 := by
 unfold whoN; split
 ·dsimp only; omega
 ·dsimp only; omega
structure PlOk (K : RK) (N : Nat) (T B sl rm : Int) (ws : List Bool) : Prop where
 hT : 0 ≤ T ∧ T ≤ 8
 hB : 0 ≤ B ∧ B ≤ 64
 hsl : 0 ≤ sl ∧ sl ≤ 100000
 hrm : 0 ≤ rm ∧ rm ≤ 100000
 sz : K.sz = N
 le : N ≤ 5000
 place : ∀ who, 0 ≤ who → who ≤ 72 → K.place who = rplaceN T B sl rm who
 room : ∀ who, -9223372036854775808 ≤ who → who ≤ 9223372036854775807 → ¬ (rplaceN T B sl rm who).1 < 0 → (rplaceN T B sl rm who).1 ≤ 30000 ∧ (0 ≤ (rplaceN T B sl rm who).2 ∧ (rplaceN T B sl rm who).2 ≤ 32) ∧ (rplaceN T B sl rm who).1 + 2 + 3 * (rplaceN T B sl rm who).2 ≤ (N : Int)
 lg : ∀ (L : List Wd) (p : Nat) (x : Wd), L.length = N → (∀ a ∈ L, WdOk a) → p ∈ K.ms → L[p]? = some x → rlogW (rreadO T B sl rm ws L) x p = K.lg L p
 low : ∀ p ∈ K.ms, p < N
set_option maxRecDepth 100000 in
set_option maxHeartbeats 4000000 in
theorem rplain_any {w : World} {K : RK} {N : Nat} {kv sv : Value} {s : RS} {T B sl rm : Int} {ws : List Bool} {pv : Value} {ma qa oa : Option Addr} {mc qc oc : Nat} (hk : Kw w kv K T B sl rm (N : Int) ws pv ma qa oa mc qc oc) {la sa : Option Addr} {lc sc : Nat} (hs : Rv w sv s la sa lc sc)
 (hP : PlOk K N T B sl rm ws) (p : Nat) (hp : K.ms[s.i]? = some p) (hst : s.st.length ≤ 100000) (hld : s.ld.length ≤ 5000) (hok : ∀ a ∈ s.ld, WdOk a) (hmk : WdOk s.met)
 (hfit : 0 < (rplaceN T B sl rm (whoN s.met.2.2).1).2 → 0 ≤ (rplaceN T B sl rm (whoN s.met.2.2).1).1 ∧ (rplaceN T B sl rm (whoN s.met.2.2).1).1.toNat + s.ld.length ≤ N) :
 Calls Tryd.prog 32 #[kv, sv] w (RPost w la sa (rPlain K s)) := by
 have HK := hid hk
 have HS := hid hs
 have HPl := hid hP
 have HOk := hid hok
 have HStl := hid hst
 have hkv := hk.val
 have hsv := hs.val
 obtain ⟨ph0, i0, j0, ⟨m1, m2, m3⟩, ld, st⟩ := s
 obtain ⟨wh, hwh⟩ : ∃ wh, wh = (whoN m3).1 := ⟨_, rfl⟩
 obtain ⟨f', hf'⟩ : ∃ f', f' = (rplaceN T B sl rm wh).1 := ⟨_, rfl⟩
 obtain ⟨mo, hmo⟩ : ∃ mo, mo = (rplaceN T B sl rm wh).2 := ⟨_, rfl⟩
 dsimp only at hfit hmk hp hok hld hst
 have HMk := hid hmk
 have hm3 := hmk.2.2
 dsimp only at hm3
 rw [← hwh, ← hf', ← hmo] at hfit
 have HFit := hid hfit
 have hT1 := hP.hT
 have hN := hP.le
 have hpN := hP.low p (List.mem_of_getElem? hp)
 have HR := hid (show rPlain K ⟨ph0, i0, j0, (m1, m2, m3), ld, st⟩ = rStore ⟨ph0, i0, j0, (m1, m2, m3), ld, st⟩ 3 p (K.lg ((imgT N mo f'.toNat ld ld.length).set p (m1, m2, m3)) p) from by
  unfold rPlain rImg imgT
  rw [show rPl K ⟨ph0, i0, j0, (m1, m2, m3), ld, st⟩ = (f', mo) from by show K.place (whoN m3).1 = _; rw [hP.place _ (whoN_bd _).1 (whoN_bd _).2, ← hwh, hf', hmo], hP.sz, List.take_length]
  dsimp only
  rw [show K.ms.getD i0 0 = p from by rw [List.getD_eq_getElem?_getD, hp]; rfl]
  rfl)
 have HPm := hid (List.mem_of_getElem? hp)
 have hin := (List.getElem?_eq_some_iff.1 hp).1
 have hii : (i0 : Int) < (K.ms.length : Int) := by omega
 obtain ⟨hq0, bm, om, hab, hbm, hcm⟩ := Sl.at HK.out.ms hp
 have c0 := hcm 0 (by omega)
 simp [locE] at c0
 obtain ⟨D, hD⟩ : ∃ D, D = ld.length := ⟨_, rfl⟩
 have HD := hid hD.symm
 have HLd := hid (show Sl w 3 wdE (.slice la D lc) ld by rw [hD]; exact HS.out.ld)
 rw [← hD] at hfit hld
 subst hab
 clear hk hs hst hcm hq0 hok hmk hP
 subst hkv hsv
 rw [show (rsL ⟨ph0, i0, j0, (m1, m2, m3), ld, st⟩ la sa lc sc) = [.int .i64 ph0, .int .i64 i0, .int .i64 j0, .int .i64 m1, .int .u32 m2, .int .u32 m3, .slice la D lc, .slice sa st.length sc] from by rw [hD]]
 clear hD
 have HWh := hid hwh
 have HF := hid hf'
 have HMo := hid hmo
 clear hwh hf' hmo hp hfit
 go_enter Tryd.func32, Tryd.ntmps32
 go_upto_region 1 with fail
 generalize hU : World.alloc _ _ = U
 have HEU := hid (show Ext w U by rw [← hU]; (show Ext _ _; repeat first | (with_reducible first | (refine xH ?_; assumption) | exact xR _ | refine xX ?_ _ | refine xA ?_ _) | refine xD ?_ | refine xN ?_ _ | exact xR _))
 have HB3 := hid (show Blk U w.heap.size (kdL T B sl rm N pv K.ms.length K.ss.length K.os.length (some ⟨bm, om, none⟩) qa oa mc qc oc) by rw [← hU]; (show Blk _ _ _; repeat first | (with_reducible first | (refine xH ?_; assumption) | refine bD ?_ | refine bX ?_ _) | (with_reducible refine bN _ _ rfl ?_; first | with_reducible rfl | (simp; done)) | (with_reducible first | refine bA ?_ _ | assumption | apply bS) | (with_reducible refine bO ?_ ?_; first | omega | (simp; omega)) | (show List.set _ _ _ = _; exact rfl) | (show _ < List.length _; simp; done)))
 have HB4 := hid (show Blk U (w.heap.size + 1) [.int .i64 ph0, .int .i64 i0, .int .i64 j0, .int .i64 m1, .int .u32 m2, .int .u32 m3, .slice la D lc, .slice sa st.length sc] by rw [← hU]; (show Blk _ _ _; repeat first | (with_reducible first | (refine xH ?_; assumption) | refine bD ?_ | refine bX ?_ _) | (with_reducible refine bN _ _ rfl ?_; first | with_reducible rfl | (simp; done)) | (with_reducible first | refine bA ?_ _ | assumption | apply bS) | (with_reducible refine bO ?_ ?_; first | omega | (simp; omega)) | (show List.set _ _ _ = _; exact rfl) | (show _ < List.length _; simp; done)))
 have HB5 := hid (show Blk U (w.heap.size + 1 + 1) [.int .i64 0, .int .i64 0, .int .i64 0, .int .i64 0, .int .u32 0, .int .u32 0, .slice none 0 0, .slice none 0 0] by rw [← hU]; (show Blk _ _ _; repeat first | (with_reducible first | (refine xH ?_; assumption) | refine bD ?_ | refine bX ?_ _) | (with_reducible refine bN _ _ rfl ?_; first | with_reducible rfl | (simp; done)) | (with_reducible first | refine bA ?_ _ | assumption | apply bS) | (with_reducible refine bO ?_ ?_; first | omega | (simp; omega)) | (show List.set _ _ _ = _; exact rfl) | (show _ < List.length _; simp; done)))
 have HB6 := hid (show Blk U (w.heap.size + 1 + 1 + 1) [.int .i64 0, .int .i64 0, .int .i64 0, .int .u32 0, .int .u32 0, .int .i64 0, .int .u32 0, .int .u32 0] by rw [← hU]; (show Blk _ _ _; repeat first | (with_reducible first | (refine xH ?_; assumption) | refine bD ?_ | refine bX ?_ _) | (with_reducible refine bN _ _ rfl ?_; first | with_reducible rfl | (simp; done)) | (with_reducible first | refine bA ?_ _ | assumption | apply bS) | (with_reducible refine bO ?_ ?_; first | omega | (simp; omega)) | (show List.set _ _ _ = _; exact rfl) | (show _ < List.length _; simp; done)))
 clear hU
 obtain ⟨g, hg⟩ : ∃ g, g = w.heap.size := ⟨_, rfl⟩
 have HGw := hid (show w.heap.size = g from hg.symm)
 rw [← hg] at HB3 HB4 HB5 HB6
 simp only [← hg]
 have hwg : w.heap.size ≤ g := by omega
 clear hg
 have k0 := HB4.out.2.2 0 _ rfl
 have k1 := HB4.out.2.2 1 _ rfl
 have k2 := HB4.out.2.2 2 _ rfl
 have k3 := HB4.out.2.2 3 _ rfl
 have k4 := HB4.out.2.2 4 _ rfl
 have k5 := HB4.out.2.2 5 _ rfl
 have k6 := HB4.out.2.2 6 _ rfl
 have k7 := HB4.out.2.2 7 _ rfl
 have kg := HB4.out.1
 have d0 := HB3.out.2.2 0 _ rfl
 have d1 := HB3.out.2.2 1 _ rfl
 have d2 := HB3.out.2.2 2 _ rfl
 have d3 := HB3.out.2.2 3 _ rfl
 have d4 := HB3.out.2.2 4 _ rfl
 have d5 := HB3.out.2.2 5 _ rfl
 have d6 := HB3.out.2.2 6 _ rfl
 have d7 := HB3.out.2.2 7 _ rfl
 have d8 := HB3.out.2.2 8 _ rfl
 have d9 := HB3.out.2.2 9 _ rfl
 have d10 := HB3.out.2.2 10 _ rfl
 have dg := HB3.out.1
 have u0 := HEU.out.cell c0
 have ug := Nat.lt_of_lt_of_le hbm HEU.out.size
 have hmkw := fun w => mk_words N (by omega) w
 clear c0
 go_wp2_with (first
  | (go_call (rwho_any m3 hm3.1 hm3.2 _) as e w' ⟨rfl, r1, rfl⟩; rw [← HWh.out])
  | (go_call (rplace_any T B sl rm wh pv N HPl.out.hT HPl.out.hB HPl.out.hsl HPl.out.hrm _) as e w' ⟨rfl, r2, rfl⟩; rw [← HF.out, ← HMo.out]))
 generalize hX : ext _ r2 = X
 obtain ⟨gw, hgw⟩ : ∃ gw, gw = U.heap.size := ⟨_, rfl⟩
 have HWX := hid (show Ws X w.heap.size (.slice (some ⟨gw, 0, none⟩) N N) (imgT N mo f'.toNat ld 0) by
  have h0 : imgT N mo f'.toNat ld 0 = List.replicate N (0, 0, 0) := by unfold imgT; split <;> rfl
  rw [← hX, h0, hgw]
  exact Ws.of (Ws.made N (by omega) U w.heap.size HEU.out.size) (by (show Ext _ _; repeat first | (with_reducible first | (refine xH ?_; assumption) | exact xR _ | refine xX ?_ _ | refine xA ?_ _) | refine xD ?_ | refine xN ?_ _ | exact xR _)))
 have HEX := hid (show Ext U X by rw [← hX]; (show Ext _ _; repeat first | (with_reducible first | (refine xH ?_; assumption) | exact xR _ | refine xX ?_ _ | refine xA ?_ _) | refine xD ?_ | refine xN ?_ _ | exact xR _))
 have HGs := hid (show g + 1 + 1 + 1 < gw by rw [hgw]; exact HB6.out.1)
 have HGl := hid (show gw < X.heap.size by rw [← hX, hgw]; simp; omega)
 rw [← hgw]
 clear hX hgw hmkw k0 k1 k2 k3 k4 k5 k6 k7 kg d0 d1 d2 d3 d4 d5 d6 d7 d8 d9 d10 dg u0 ug
 go_loopw [12] (fun i wr => ∃ j : Nat, j ≤ D ∧ i = .int .i64 j ∧ Hid (Ws wr w.heap.size (.slice (some ⟨gw, 0, none⟩) N N) (imgT N mo f'.toNat ld j)) ∧ Hid (Grn gw X wr)) (fun i _ => D - (intOf i).toNat)
 case atStart => exact ⟨0, by omega, rfl, HWX, hid Grn.refl⟩
 case round =>
 clear HWX
 obtain ⟨j, hj, rfl, HWr, HG⟩ := hrel
 have hgs := HGs.out
 have HR3 := hid ((HB3.out.of HEX.out).grn HG.out (by omega))
 have HR4 := hid ((HB4.out.of HEX.out).grn HG.out (by omega))
 have k0 := HR4.out.2.2 0 _ rfl
 have k1 := HR4.out.2.2 1 _ rfl
 have k2 := HR4.out.2.2 2 _ rfl
 have k3 := HR4.out.2.2 3 _ rfl
 have k4 := HR4.out.2.2 4 _ rfl
 have k5 := HR4.out.2.2 5 _ rfl
 have k6 := HR4.out.2.2 6 _ rfl
 have k7 := HR4.out.2.2 7 _ rfl
 have kg := HR4.out.1
 have rgw := Nat.lt_of_lt_of_le HGl.out HG.out.size
 have HNl := hid (imgT_len N mo f'.toNat ld j)
 have rfz := fun o => Ws.free HWr.out o
 by_cases hc : 0 < mo ∧ j < D
 ·obtain ⟨hm0, hjD⟩ := hc
  have hd1 : decide (j < D) = true := decide_eq_true hjD
  have hji : (j : Int) < (D : Int) := by omega
  obtain ⟨f0, hfit⟩ := HFit.out hm0
  rw [HD.out] at hfit
  obtain ⟨f, hf⟩ : ∃ f, f = f'.toNat := ⟨_, rfl⟩
  have hf2 : f' = (f : Int) := by omega
  rw [← hf] at hfit HWr HNl
  obtain ⟨⟨y1, y2, y3⟩, hy⟩ : ∃ y, ld[j]? = some y := ⟨_, List.getElem?_eq_getElem (by rw [HD.out]; omega)⟩
  have HSu := hid (imgT_succ (N := N) (f := f) hm0 hy)
  obtain ⟨hq0, bl, ol, hab, hbl, hcl⟩ := Sl.at HLd.out hy
  have HEw := hid (HEU.out.trans HEX.out)
  have e0 := HG.out.cell (show bl ≠ gw by omega) (HEw.out.cell (hcl 0 (by omega)))
  have e1 := HG.out.cell (show bl ≠ gw by omega) (HEw.out.cell (hcl 1 (by omega)))
  have e2 := HG.out.cell (show bl ≠ gw by omega) (HEw.out.cell (hcl 2 (by omega)))
  simp at e0 e1 e2
  have eg : bl < wr.heap.size := Nat.lt_of_lt_of_le hbl (Nat.le_trans HEw.out.size HG.out.size)
  subst hab
  obtain ⟨q, hq⟩ : ∃ q, q = f + j := ⟨_, rfl⟩
  obtain ⟨⟨z1, z2, z3⟩, hz⟩ : ∃ z, (imgT N mo f ld j)[q]? = some z := ⟨_, List.getElem?_eq_getElem (by rw [HNl.out]; omega)⟩
  obtain ⟨x0, x1, x2⟩ := Ws.cells HWr.out hz
  have hix : (q : Int) < (N : Int) := by omega
  have hlt : q < N := by omega
  have hw0 : -9223372036854775808 ≤ (f : Int) + (j : Int) ∧ (f : Int) + (j : Int) ≤ 9223372036854775807 := ⟨by omega, by omega⟩
  have hw2 : (f : Int) + (j : Int) = (q : Int) := by omega
  have hw1 : wrap64 ((f : Int) + (j : Int)) = (q : Int) := by rw [IntWalk.wrap64_in _ hw0]; exact hw2
  have HIx := hid (And.intro hlt hfit)
  rw [← hq] at HSu
  have HQ := hid hq
  have HF0 := hid hf2
  rw [hf2]
  clear hcl hq0 hz hf hy hfit hw0 hq hlt hf2 f0 hw2
  go_wp2_with fail
  go_roundw
  case rel => exact ⟨j + 1, by omega, by go_num, hid (by rw [Int.toNat_natCast, HSu.out]; exact Ws.put HWr.out (by rw [HNl.out]; exact HIx.out.1) y1 y2 y3), hid (((HG.out.setCell _ _).setCell _ _).setCell _ _)⟩
  case measure => simp [intOf]; omega
 ·have hcs : (j < D ∧ ¬ 0 < mo) ∨ (¬ j < D ∧ j = D) := by omega
  have hL : imgT N mo f'.toNat ld j = imgT N mo f'.toNat ld D := by
   rcases hcs with ⟨_, h⟩ | ⟨_, h⟩
   ·unfold imgT; rw [if_neg h, if_neg h]
   ·rw [h]
  rw [hL] at HWr HNl
  obtain ⟨⟨z1, z2, z3⟩, hz⟩ : ∃ z, (imgT N mo f'.toNat ld D)[p]? = some z := ⟨_, List.getElem?_eq_getElem (by rw [HNl.out]; omega)⟩
  obtain ⟨x0, x1, x2⟩ := Ws.cells HWr.out hz
  have hpi : (p : Int) < (N : Int) := by omega
  have HPN := hid hpN
  obtain ⟨L, hLd⟩ : ∃ L, L = (imgT N mo f'.toNat ld D).set p (m1, m2, m3) := ⟨_, rfl⟩
  have HLk := hid (show L.length = N ∧ (∀ a ∈ L, WdOk a) ∧ L[p]? = some (m1, m2, m3) from by
   refine ⟨by rw [hLd, List.length_set, HNl.out], ?_, ?_⟩
   ·rw [hLd]; exact set_ok (imgT_ok HOk.out) HMk.out p
   ·rw [hLd, List.getElem?_set_self (by rw [HNl.out]; omega)])
  obtain ⟨⟨l1, l2, l3⟩, hlg⟩ : ∃ x, x = K.lg L p := ⟨_, rfl⟩
  have HLg := hid (show rlogW (rreadO T B sl rm ws L) (m1, m2, m3) p = (l1, l2, l3) from by rw [hlg]; exact HPl.out.lg L p _ HLk.out.1 HLk.out.2.1 HPm.out HLk.out.2.2)
  have HRr := hid (show rPlain K ⟨ph0, i0, j0, (m1, m2, m3), ld, st⟩ = rStore ⟨ph0, i0, j0, (m1, m2, m3), ld, st⟩ 3 p (l1, l2, l3) from by rw [HR.out, HD.out, ← hLd, hlg])
  have HLL := hid hLd
  have HJ := hid hj
  clear hL hz hpi hLd hlg hc hj hpN
  have hpi : (p : Int) < (N : Int) := by have := HPN.out; omega
  rcases hcs with ⟨h1, h2⟩ | ⟨h1, h2⟩
  all_goals
   first
    | (have hd1 : decide (j < D) = true := decide_eq_true h1; have hd2 : decide (0 < mo) = false := decide_eq_false h2; have hji : (j : Int) < (D : Int) := by omega)
    | (have hd1 : decide (j < D) = false := decide_eq_false h1; have hd2 : True := trivial; have hji : ¬ (j : Int) < (D : Int) := by omega)
   go_upto_region 10 with fail
   generalize hY : World.setCell _ _ _ = Y
   have HWY := hid (show Ws Y w.heap.size (.slice (some ⟨gw, 0, none⟩) N N) L by rw [← hY, HLL.out]; exact Ws.put HWr.out (by rw [HNl.out]; exact HPN.out) m1 m2 m3)
   have hgY : Grn gw X Y := by rw [← hY]; exact ((HG.out.setCell _ _).setCell _ _).setCell _ _
   have HY3 := hid ((HB3.out.of HEX.out).grn hgY (by omega))
   have HY4 := hid ((HB4.out.of HEX.out).grn hgY (by omega))
   have HY5 := hid ((HB5.out.of HEX.out).grn hgY (by omega))
   have HY6 := hid ((HB6.out.of HEX.out).grn hgY (by omega))
   have HEY := hid (show Ext w Y from (HEU.out.trans HEX.out).grn hgY (by omega))
   have HYs := hid (show g + 1 + 1 + 1 < Y.heap.size from HY6.out.1)
   clear hY hgY x0 x1 x2 k0 k1 k2 k3 k4 k5 k6 k7 kg rgw rfz hd1 hd2 hji h1 h2
   have k0 := HY4.out.2.2 0 _ rfl
   have k1 := HY4.out.2.2 1 _ rfl
   have k2 := HY4.out.2.2 2 _ rfl
   have k3 := HY4.out.2.2 3 _ rfl
   have k4 := HY4.out.2.2 4 _ rfl
   have k5 := HY4.out.2.2 5 _ rfl
   have k6 := HY4.out.2.2 6 _ rfl
   have k7 := HY4.out.2.2 7 _ rfl
   have kg := HY4.out.1
   have d0 := HY3.out.2.2 0 _ rfl
   have d1 := HY3.out.2.2 1 _ rfl
   have d2 := HY3.out.2.2 2 _ rfl
   have d3 := HY3.out.2.2 3 _ rfl
   have d4 := HY3.out.2.2 4 _ rfl
   have d5 := HY3.out.2.2 5 _ rfl
   have d6 := HY3.out.2.2 6 _ rfl
   have d7 := HY3.out.2.2 7 _ rfl
   have dg := HY3.out.1
   have HL_ := hid (fun w' (h : Ext Y w') => (And.intro (Nat.lt_of_lt_of_le kg h.size) (And.intro (Nat.lt_of_lt_of_le dg h.size) (And.intro (h.cell k0) (And.intro (h.cell k1) (And.intro (h.cell k2) (And.intro (h.cell k3) (And.intro (h.cell k4) (And.intro (h.cell k5) (And.intro (h.cell k6) (And.intro (h.cell k7) (And.intro (h.cell d0) (And.intro (h.cell d1) (And.intro (h.cell d2) (And.intro (h.cell d3) (And.intro (h.cell d4) (And.intro (h.cell d5) (And.intro (h.cell d6) (h.cell d7)))))))))))))))))))
   refine wp_region_facts [63, 64, 65, 66, 67, 68, 69, 70, 71, 72] [0, 1, 2, 3, 4, 5, 6, 7, 8, 9] rfl (fun w' => Ext Y w') (fsAt [IsV ?_, IsV ?_, IsV ?_, IsV ?_, IsV ?_, IsV ?_, IsV (.agg #[.int .i64 l1, .int .u32 l2, .int .u32 l3]), (fun v w' => ∃ la2 sa2 lc2 sc2, v = .tuple #[.agg (rsL ⟨3, i0, j0, (m1, m2, m3), ld, st ++ [p]⟩ la2 sa2 lc2 sc2).toArray, .agg (acE ((3 : Int), (p : Int), (l1, l2, l3))).toArray] ∧ Rv w' (.agg (rsL ⟨3, i0, j0, (m1, m2, m3), ld, st ++ [p]⟩ la2 sa2 lc2 sc2).toArray) ⟨3, i0, j0, (m1, m2, m3), ld, st ++ [p]⟩ la2 sa2 lc2 sc2 ∧ Nw Y.heap.size la la2 ∧ Nw Y.heap.size sa sa2), (fun v w' => ∃ la2 sa2 lc2 sc2, v = .agg (rsL ⟨3, i0, j0, (m1, m2, m3), ld, st ++ [p]⟩ la2 sa2 lc2 sc2).toArray ∧ Rv w' (.agg (rsL ⟨3, i0, j0, (m1, m2, m3), ld, st ++ [p]⟩ la2 sa2 lc2 sc2).toArray) ⟨3, i0, j0, (m1, m2, m3), ld, st ++ [p]⟩ la2 sa2 lc2 sc2 ∧ Nw Y.heap.size la la2 ∧ Nw Y.heap.size sa sa2), IsV (.agg (acE ((3 : Int), (p : Int), (l1, l2, l3))).toArray)]) (by kernel_rfl) (by kernel_rfl) ((Ext.refl _).drew) (fun w w' h he => h.trans he) (AllOn.cons (fun _ _ _ h _ => h) (AllOn.cons (fun _ _ _ h _ => h) (AllOn.cons (fun _ _ _ h _ => h) (AllOn.cons (fun _ _ _ h _ => h) (AllOn.cons (fun _ _ _ h _ => h) (AllOn.cons (fun _ _ _ h _ => h) (AllOn.cons (fun _ _ _ h _ => h) (AllOn.cons (fun _ _ _ h he => by obtain ⟨q1, q2, q3, q4, h1, h2, h3⟩ := h; exact ⟨q1, q2, q3, q4, h1, h2.of he, h3⟩) (AllOn.cons (fun _ _ _ h he => by obtain ⟨q1, q2, q3, q4, h1, h2, h3⟩ := h; exact ⟨q1, q2, q3, q4, h1, h2.of he, h3⟩) (AllOn.cons (fun _ _ _ h _ => h) (AllOn.nil))))))))))) (AllOn.cons ?_ (AllOn.cons ?_ (AllOn.cons ?_ (AllOn.cons ?_ (AllOn.cons ?_ (AllOn.cons ?_ (AllOn.cons ?_ (AllOn.cons ?_ (AllOn.cons ?_ (AllOn.cons ?_ (AllOn.nil))))))))))) ?_
   rotate_left 6
   ·intro A w cx hO hD
    have e3 := evO hO 3 rfl
    clear hD hO
    refine head_val (o := ⟨_, _, _, _, _, _⟩) rfl ?_ rfl rfl ?_ ?_
    rotate_left 1
    ·simp [go_sem, e3, cx, HL_.out w cx]
     try with_reducible rfl
    ·exact IsV.mk (w := w)
   ·intro A w cx hO hD
    have e6 := evO hO 6 rfl
    clear hD hO
    refine head_val (o := ⟨_, _, _, _, _, _⟩) rfl ?_ rfl rfl ?_ ?_
    rotate_left 1
    ·simp [go_sem, e6, cx, HL_.out w cx]
     try with_reducible rfl
    ·exact IsV.mk (w := w)
   ·intro A w cx hO hD
    have e2 := evO hO 2 rfl
    clear hD hO
    refine head_val (o := ⟨_, _, _, _, _, _⟩) rfl ?_ rfl rfl ?_ ?_
    rotate_left 1
    ·simp [go_sem, e2, cx, HL_.out w cx]
     try with_reducible rfl
    ·exact IsV.mk (w := w)
   ·intro A w cx hO hD
    have e65 := evD (hD 2 (by kernel_rfl) 65 rfl)
    clear hD hO
    refine head_val (o := ⟨_, _, _, _, _, _⟩) rfl ?_ rfl rfl ?_ ?_
    rotate_left 1
    ·simp [go_sem, e65, cx, HL_.out w cx]
     try with_reducible rfl
    ·exact IsV.mk (w := w)
   ·intro A w cx hO hD
    have e7 := evO hO 7 rfl
    clear hD hO
    refine head_val (o := ⟨_, _, _, _, _, _⟩) rfl ?_ rfl rfl ?_ ?_
    rotate_left 1
    ·simp [go_sem, e7, cx, HL_.out w cx]
     try with_reducible rfl
    ·exact IsV.mk (w := w)
   ·intro A w cx hO hD
    have e6 := evO hO 6 rfl
    clear hD hO
    refine head_val (o := ⟨_, _, _, _, _, _⟩) rfl ?_ rfl rfl ?_ ?_
    rotate_left 1
    ·simp [go_sem, e6, cx, HL_.out w cx]
     try with_reducible rfl
    ·exact IsV.mk (w := w)
   ·intro A w cx hO hD
    have e66 := evD (hD 3 (by kernel_rfl) 66 rfl)
    have e67 := evD (hD 4 (by kernel_rfl) 67 rfl)
    have e68 := evD (hD 5 (by kernel_rfl) 68 rfl)
    clear hD hO
    refine head_wp (o := ⟨_, _, _, _, _, _⟩) rfl rfl ?_
    simp [go_sem, e66, e67, e68]
    refine (rlogical_any T B sl rm N HPl.out.hT HPl.out.hB HPl.out.hsl HPl.out.hrm ws pv L _ HLk.out.2.1 (fun who h1 h2 h3 => by rw [HLk.out.1]; exact HPl.out.room who h1 h2 h3) p m1 m2 m3 HLk.out.2.2 _ (HK.out.may.of boE_len (HEY.out.trans cx)) ((Sl.of_own wdE_len HWY.out).of wdE_len cx)).mono ?_
    rintro e w' ⟨⟨r', rfl⟩, rfl⟩
    exact ⟨_, rfl, ⟨r', rfl⟩, by rw [HLg.out]; rfl⟩
   ·intro A w cx hO hD
    have e63 := evD (hD 0 (by kernel_rfl) 63 rfl)
    have e64 := evD (hD 1 (by kernel_rfl) 64 rfl)
    have e69 := evD (hD 6 (by kernel_rfl) 69 rfl)
    clear hD hO
    refine head_wp (o := ⟨_, _, _, _, _, _⟩) rfl rfl ?_
    simp [go_sem, e63, e64, e69]
    refine (rstore_any (s := ⟨ph0, i0, j0, (m1, m2, m3), ld, st⟩) (la := la) (sa := sa) (lc := lc) (sc := sc) ⟨by rw [rsL, HD.out], by rw [HD.out]; exact HLd.out.of wdE_len (HEY.out.trans cx), HS.out.st.of locE_len (HEY.out.trans cx), fun a ha => Nat.lt_of_lt_of_le (HS.out.lb a ha) (HEY.out.trans cx).size, fun a ha => Nat.lt_of_lt_of_le (HS.out.sb a ha) (HEY.out.trans cx).size⟩ 3 p l1 l2 l3 HStl.out).mono ?_
    rintro e w' ⟨v, la2, sa2, lc2, sc2, rfl, hv, hn1, hn2, ⟨r', rfl⟩⟩
    have hvv := hv.val
    subst hvv
    exact ⟨_, rfl, ⟨r', rfl⟩, la2, sa2, lc2, sc2, rfl, hv, hn1.mono cx.size, hn2.mono cx.size⟩
   ·intro A w cx hO hD
    have e70 := hD 7 (by kernel_rfl) 70 rfl
    rw [ev_tm] at e70
    clear hD hO
    refine head_wp (o := ⟨_, _, _, _, _, _⟩) rfl rfl ?_
    obtain ⟨la2, sa2, lc2, sc2, e70, hrest⟩ := e70
    simp [go_sem, e70]
    exact ⟨_, rfl, Ext.refl _, la2, sa2, lc2, sc2, rfl, hrest⟩
   ·intro A w cx hO hD
    have e70 := hD 7 (by kernel_rfl) 70 rfl
    rw [ev_tm] at e70
    clear hD hO
    refine head_wp (o := ⟨_, _, _, _, _, _⟩) rfl rfl ?_
    obtain ⟨la2, sa2, lc2, sc2, e70, hrest⟩ := e70
    simp [go_sem, e70]
    exact ⟨_, rfl, Ext.refl _, rfl⟩
   intro u wx hC hF
   obtain ⟨f0, f1, f2, f3, f4, f5, f6, f7, f8, f9, _⟩ := hF
   have g0 : u 0 = _ := f0
   have g1 : u 1 = _ := f1
   have g2 : u 2 = _ := f2
   have g3 : u 3 = _ := f3
   have g4 : u 4 = _ := f4
   have g5 : u 5 = _ := f5
   have g6 : u 6 = _ := f6
   obtain ⟨v7, g7⟩ : ∃ v, u 7 = v := ⟨_, rfl⟩
   rw [g7] at f7
   obtain ⟨v8, g8⟩ : ∃ v, u 8 = v := ⟨_, rfl⟩
   rw [g8] at f8
   have g9 : u 9 = _ := f9
   simp only [fPut, Nat.zero_add, Nat.reduceAdd, g0, g1, g2, g3, g4, g5, g6, g7, g8, g9, Act.put, List.setIfInBounds_toArray, List.set_cons_zero, List.set_cons_succ, List.length_cons, List.length_nil, List.drop_succ_cons, List.drop_zero]
   clear g0 g1 g2 g3 g4 g5 g6 g7 g8 g9 f0 f1 f2 f3 f4 f5 f6 f9
   clear f7
   obtain ⟨la2, sa2, lc2, sc2, rfl, hv, hn1, hn2⟩ := f8
   have HV := hid hv
   have HN1 := hid hn1
   have HN2 := hid hn2
   have HEx := hid (HEY.out.trans hC)
   have HBx5 := hid (HY5.out.of hC)
   have HBx6 := hid (HY6.out.of hC)
   clear hC hv hn1 hn2 k0 k1 k2 k3 k4 k5 k6 k7 kg d0 d1 d2 d3 d4 d5 d6 d7 dg
   have y1 := HBx5.out.1
   have y2 := HBx6.out.1
   have y3 := HBx5.out.2.1
   have y4 := HBx6.out.2.1
   obtain ⟨x0, x1, x2, x3, x4, x5, x6, x7⟩ := HBx5.out.eight
   obtain ⟨v0, v1, v2, v3, v4, v5, v6, v7⟩ := HBx6.out.eight
   simp only [acE, rsL]
   (repeat (first | go_values | go_skip | go_guarded | go_step | go_upon | (simp only [Int.not_lt, Int.not_le] at *; go_simp) | (go_ite <;> go_prune <;> (try go_simp))))
   obtain ⟨W, hW, hW5, hW6, hWE, W1, hG1, hG2⟩ := st16 HBx5.out HBx6.out (by omega) (.int .i64 3) (.int .i64 i0) (.int .i64 j0) (.int .i64 m1) (.int .u32 m2) (.int .u32 m3) (.slice la2 ld.length lc2) (.slice sa2 (st.length + 1) sc2) (.int .i64 3) (.int .i64 p) (.int .i64 0) (.int .u32 0) (.int .u32 0) (.int .i64 l1) (.int .u32 l2) (.int .u32 l3)
   rw [hW]
   have HE := hid (hWE w HEx.out (by omega) (by omega))
   have HSz := hid (Nat.le_trans hG1.size hG2.size)
   have HWl := hid (HV.out.ld.two wdE_len hG1 hG2 (HN1.out.ne HS.out.lb (by omega) (by have := HYs.out; omega)) (HN1.out.ne HS.out.lb (by omega) (by have := HYs.out; omega)))
   have HWs := hid (HV.out.st.two locE_len hG1 hG2 (HN2.out.ne HS.out.sb (by omega) (by have := HYs.out; omega)) (HN2.out.ne HS.out.sb (by omega) (by have := HYs.out; omega)))
   obtain ⟨r0, r1', r2', r3, r4, r5, r6, r7⟩ := hW5.eight
   obtain ⟨q0, q1, q2, q3, q4, q5, q6, q7⟩ := hW6.eight
   have w5 := hW5.1
   have w6 := hW6.1
   exact bodyPost_ret (v := .tuple #[.agg (rsL ⟨3, i0, j0, (m1, m2, m3), ld, st ++ [p]⟩ la2 sa2 lc2 sc2).toArray, .agg (acE ((3 : Int), (p : Int), (l1, l2, l3))).toArray]) (by simp [results, Tryd.results32, go_sem, r0, r1', r2', r3, r4, r5, r6, r7, q0, q1, q2, q3, q4, q5, q6, q7, w5, w6, acE]) rfl (by rw [HRr.out]; exact ⟨_, la2, sa2, lc2, sc2, rfl, ⟨rfl, HWl.out, HWs.out, fun a ha => Nat.lt_of_lt_of_le (HV.out.lb a ha) HSz.out, fun a ha => Nat.lt_of_lt_of_le (HV.out.sb a ha) HSz.out⟩, HN1.out.mono HEY.out.size, HN2.out.mono HEY.out.size, HE.out⟩)
end Go.Proofs.YtdpbcfjfnclpiaaDoor
