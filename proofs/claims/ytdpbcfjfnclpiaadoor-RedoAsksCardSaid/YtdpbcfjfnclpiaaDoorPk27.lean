/- Walks of the reference's act, own, status, word and store (simulcastref25): each is what its plain form says. -/
import Derived.Test.YtdpbcfjfnclpiaaDoorPk25
import Derived.Test.YtdpbcfjfnclpiaaDoorPk26
namespace Go.Proofs.YtdpbcfjfnclpiaaDoor
set_option linter.unusedSimpArgs false
set_option linter.unusedVariables false
open Go.RowKit
abbrev rsL (s : RS) (la sa : Option Addr) (lc sc : Nat) : List Value := [.int .i64 s.ph, .int .i64 s.i, .int .i64 s.j, .int .i64 s.met.1, .int .u32 s.met.2.1, .int .u32 s.met.2.2, .slice la s.ld.length lc, .slice sa s.st.length sc]
structure Rv (w : World) (v : Value) (s : RS) (la sa : Option Addr) (lc sc : Nat) : Prop where
 val : v = .agg (rsL s la sa lc sc).toArray
 ld : Sl w 3 wdE (.slice la s.ld.length lc) s.ld
 st : Sl w 1 locE (.slice sa s.st.length sc) s.st
 lb : ∀ a, la = some a → a.block < w.heap.size
 sb : ∀ a, sa = some a → a.block < w.heap.size
def Nw (z : Nat) (a a2 : Option Addr) : Prop := a2 = a ∨ a2 = none ∨ ∃ d, a2 = some d ∧ z ≤ d.block
theorem Nw.mono {z z' : Nat} {a a2 : Option Addr} (h : Nw z a a2) (hz : z' ≤ z) : Nw z' a a2 := by
 rcases h with h | h | ⟨d, h, k⟩
 ·exact .inl h
 ·exact .inr (.inl h)
 ·exact .inr (.inr ⟨d, h, by omega⟩)
theorem Nw.ne {z z' : Nat} {a a2 : Option Addr} (h : Nw z a a2) (ha : ∀ d, a = some d → d.block < z') {b : Nat} (hb : z' ≤ b) (hz : b < z) : ∀ d, a2 = some d → d.block ≠ b := by
 intro d hd
 rcases h with h | h | ⟨d', h, k⟩
 ·have := ha d (by rw [← h, hd]); omega
 ·rw [h] at hd; cases hd
 ·rw [h] at hd; cases hd; omega
def Rx (w : World) (v : Value) (s : RS) : Prop := ∃ la sa lc sc, Rv w v s la sa lc sc
theorem Rv.of {w w' : World} {v : Value} {s : RS} {la sa : Option Addr} {lc sc : Nat} (h : Rv w v s la sa lc sc) (he : Ext w w') : Rv w' v s la sa lc sc := ⟨h.val, h.ld.of wdE_len he, h.st.of locE_len he, fun a ha => Nat.lt_of_lt_of_le (h.lb a ha) he.size, fun a ha => Nat.lt_of_lt_of_le (h.sb a ha) he.size⟩
theorem Rx.of {w w' : World} {v : Value} {s : RS} (h : Rx w v s) (he : Ext w w') : Rx w' v s := by
 obtain ⟨la, sa, lc, sc, h⟩ := h; exact ⟨la, sa, lc, sc, h.of he⟩
abbrev kdL (T B sl rm sz : Int) (pv : Value) (nm ns no : Nat) (ma sa oa : Option Addr) (mc sc oc : Nat) : List Value := [.int .i64 T, .int .i64 B, .int .i64 sl, .int .i64 rm, .int .i64 104, .int .i64 32, pv, .int .i64 sz, .slice ma nm mc, .slice sa ns sc, .slice oa no oc]
structure Kw (w : World) (v : Value) (K : RK) (T B sl rm sz : Int) (ws : List Bool) (pv : Value) (ma sa oa : Option Addr) (mc sc oc : Nat) : Prop where
 val : v = .agg (kdL T B sl rm sz pv K.ms.length K.ss.length K.os.length ma sa oa mc sc oc).toArray
 may : Sl w 1 boE pv ws
 ms : Sl w 1 locE (.slice ma K.ms.length mc) K.ms
 ss : Sl w 1 locE (.slice sa K.ss.length sc) K.ss
 os : Sl w 1 locE (.slice oa K.os.length oc) K.os
theorem Kw.of {w w' : World} {v : Value} {K : RK} {T B sl rm sz : Int} {ws : List Bool} {pv : Value} {ma sa oa : Option Addr} {mc sc oc : Nat} (h : Kw w v K T B sl rm sz ws pv ma sa oa mc sc oc) (he : Ext w w') : Kw w' v K T B sl rm sz ws pv ma sa oa mc sc oc :=
 ⟨h.val, h.may.of boE_len he, h.ms.of locE_len he, h.ss.of locE_len he, h.os.of locE_len he⟩
def RPost (w : World) (la sa : Option Addr) (r : RS × Ac) (e : Ending) (w' : World) : Prop := ∃ v la2 sa2 lc2 sc2, e = .returned (.tuple #[v, .agg (acE r.2).toArray]) ∧ Rv w' v r.1 la2 sa2 lc2 sc2 ∧ Nw w.heap.size la la2 ∧ Nw w.heap.size sa sa2 ∧ Ext w w'
theorem st16 {w : World} {b c : Nat} {u0 u1 u2 u3 u4 u5 u6 u7 v0 v1 v2 v3 v4 v5 v6 v7 : Value} (hb : Blk w b [u0, u1, u2, u3, u4, u5, u6, u7]) (hc : Blk w c [v0, v1, v2, v3, v4, v5, v6, v7]) (hbc : b ≠ c) (x0 x1 x2 x3 x4 x5 x6 x7 y0 y1 y2 y3 y4 y5 y6 y7 : Value) :
 ∃ W, ((((((((((((((((w.setCell ⟨b, 0, none⟩ x0).setCell ⟨b, 1, none⟩ x1).setCell ⟨b, 2, none⟩ x2).setCell ⟨b, 3, none⟩ x3).setCell ⟨b, 4, none⟩ x4).setCell ⟨b, 5, none⟩ x5).setCell ⟨b, 6, none⟩ x6).setCell ⟨b, 7, none⟩ x7).setCell ⟨c, 0, none⟩ y0).setCell ⟨c, 1, none⟩ y1).setCell ⟨c, 2, none⟩ y2).setCell ⟨c, 3, none⟩ y3).setCell ⟨c, 4, none⟩ y4).setCell ⟨c, 5, none⟩ y5).setCell ⟨c, 6, none⟩ y6).setCell ⟨c, 7, none⟩ y7) = W ∧
  Blk W b [x0, x1, x2, x3, x4, x5, x6, x7] ∧ Blk W c [y0, y1, y2, y3, y4, y5, y6, y7] ∧ (∀ V : World, Ext V w → V.heap.size ≤ b → V.heap.size ≤ c → Ext V W) ∧ ∃ W1, Grn b w W1 ∧ Grn c W1 W := by
 obtain ⟨h1, g1⟩ := st8 hb x0 x1 x2 x3 x4 x5 x6 x7
 obtain ⟨h2, g2⟩ := st8 (hc.grn g1 (fun h => hbc h.symm)) y0 y1 y2 y3 y4 y5 y6 y7
 exact ⟨_, rfl, h1.grn g2 hbc, h2, fun V hV k1 k2 => Ext.grn (Ext.grn hV g1 k1) g2 k2, _, g1, g2⟩
theorem Sl.two {α : Type} {size : Nat} {enc : α → List Value} (henc : ∀ x, (enc x).length = size) {w W1 W : World} {b d n c : Nat} {a : Option Addr} {l : List α} (h : Sl w size enc (.slice a n c) l) (k1 : Grn b w W1) (k2 : Grn d W1 W) (h1 : ∀ x, a = some x → x.block ≠ b) (h2 : ∀ x, a = some x → x.block ≠ d) : Sl W size enc (.slice a n c) l :=
 Sl.grnV henc (Sl.grnV henc h k1 (fun x m e he => by cases he; exact h1 x rfl)) k2 (fun x m e he => by cases he; exact h2 x rfl)
theorem ract_any (op at_ x y z : Int) (w : World) : Calls Tryd.prog 33 #[.int .i64 op, .int .i64 at_, .agg #[.int .i64 x, .int .u32 y, .int .u32 z]] w fun e w' => e = .returned (.agg (acE (op, at_, x, y, z)).toArray) ∧ ∃ r, w' = ext w r := by
 go_enter Tryd.func33, Tryd.ntmps33
 (repeat (first | go_values | go_skip | go_guarded | go_step | go_upon | (simp only [Int.not_lt, Int.not_le] at *; go_simp) | (go_ite <;> go_prune <;> (try go_simp))))
 exact bodyPost_ret (v := .agg (acE (op, at_, x, y, z)).toArray) (by simp [results, Tryd.results33, go_sem, acE]) rfl ⟨rfl, by (show Ext _ _; repeat first | (with_reducible first | (refine xH ?_; assumption) | exact xR _ | refine xX ?_ _ | refine xA ?_ _) | refine xD ?_ | refine xN ?_ _ | refine xS ?_ (by (try dsimp only); first | omega | (simp; done) | (simp; omega)) _)⟩
set_option maxRecDepth 100000 in
set_option maxHeartbeats 2000000 in
theorem rown_any {w : World} {K : RK} {kv sv : Value} {s : RS} {T B sl rm sz : Int} {ws : List Bool} {pv : Value} {ma qa oa : Option Addr} {mc qc oc : Nat} (hk : Kw w kv K T B sl rm sz ws pv ma qa oa mc qc oc) {la sa : Option Addr} {lc sc : Nat} (hs : Rv w sv s la sa lc sc) (hi : s.i ≤ 1000000) (hst : s.st.length ≤ 1000000) :
 Calls Tryd.prog 36 #[kv, sv] w (RPost w la sa (rOwn K s)) := by
 have HK := hid hk
 have HS := hid hs
 have HH := hid (And.intro hi hst)
 have hkv := hk.val
 have hsv := hs.val
 clear hi hst hk hs
 subst hkv hsv
 go_enter Tryd.func36, Tryd.ntmps36
 go_upto_region 1 with fail
 generalize hU : World.alloc _ _ = U
 have HEU := hid (show Ext w U by rw [← hU]; (show Ext _ _; repeat first | (with_reducible first | (refine xH ?_; assumption) | exact xR _ | refine xX ?_ _ | refine xA ?_ _) | refine xD ?_ | refine xN ?_ _ | exact xR _))
 have HB3 := hid (show Blk U w.heap.size (kdL T B sl rm sz pv K.ms.length K.ss.length K.os.length ma qa oa mc qc oc) by rw [← hU]; (show Blk _ _ _; repeat first | (with_reducible first | (refine xH ?_; assumption) | refine bD ?_ | refine bX ?_ _) | (with_reducible refine bN _ _ rfl ?_; first | with_reducible rfl | (simp; done)) | (with_reducible first | refine bA ?_ _ | assumption | apply bS) | (with_reducible refine bO ?_ ?_; first | omega | (simp; omega)) | (show List.set _ _ _ = _; exact rfl) | (show _ < List.length _; simp; done)))
 have HB4 := hid (show Blk U (w.heap.size + 1) (rsL s la sa lc sc) by rw [← hU]; (show Blk _ _ _; repeat first | (with_reducible first | (refine xH ?_; assumption) | refine bD ?_ | refine bX ?_ _) | (with_reducible refine bN _ _ rfl ?_; first | with_reducible rfl | (simp; done)) | (with_reducible first | refine bA ?_ _ | assumption | apply bS) | (with_reducible refine bO ?_ ?_; first | omega | (simp; omega)) | (show List.set _ _ _ = _; exact rfl) | (show _ < List.length _; simp; done)))
 have HB5 := hid (show Blk U (w.heap.size + 1 + 1) [.int .i64 0, .int .i64 0, .int .i64 0, .int .i64 0, .int .u32 0, .int .u32 0, .slice none 0 0, .slice none 0 0] by rw [← hU]; (show Blk _ _ _; repeat first | (with_reducible first | (refine xH ?_; assumption) | refine bD ?_ | refine bX ?_ _) | (with_reducible refine bN _ _ rfl ?_; first | with_reducible rfl | (simp; done)) | (with_reducible first | refine bA ?_ _ | assumption | apply bS) | (with_reducible refine bO ?_ ?_; first | omega | (simp; omega)) | (show List.set _ _ _ = _; exact rfl) | (show _ < List.length _; simp; done)))
 have HB6 := hid (show Blk U (w.heap.size + 1 + 1 + 1) [.int .i64 0, .int .i64 0, .int .i64 0, .int .u32 0, .int .u32 0, .int .i64 0, .int .u32 0, .int .u32 0] by rw [← hU]; (show Blk _ _ _; repeat first | (with_reducible first | (refine xH ?_; assumption) | refine bD ?_ | refine bX ?_ _) | (with_reducible refine bN _ _ rfl ?_; first | with_reducible rfl | (simp; done)) | (with_reducible first | refine bA ?_ _ | assumption | apply bS) | (with_reducible refine bO ?_ ?_; first | omega | (simp; omega)) | (show List.set _ _ _ = _; exact rfl) | (show _ < List.length _; simp; done)))
 clear hU
 obtain ⟨g, hg⟩ : ∃ g, g = w.heap.size := ⟨_, rfl⟩
 have HGw := hid (show w.heap.size = g from hg.symm)
 rw [← hg] at HB3 HB4 HB5 HB6
 simp only [← hg]
 have hwg : w.heap.size ≤ g := by omega
 clear hg
 have HKU := hid (HK.out.of HEU.out)
 have HSU := hid (HS.out.of HEU.out)
 have k0 := HB4.out.2.2 0 _ rfl
 have k1 := HB4.out.2.2 1 _ rfl
 have k2 := HB4.out.2.2 2 _ rfl
 have k3 := HB4.out.2.2 3 _ rfl
 have k4 := HB4.out.2.2 4 _ rfl
 have k5 := HB4.out.2.2 5 _ rfl
 have k6 := HB4.out.2.2 6 _ rfl
 have k7 := HB4.out.2.2 7 _ rfl
 have kg := HB4.out.1
 have kf := HB4.out.2.1
 have kd := HB3.out.2.2 10 _ rfl
 have kdg := HB3.out.1
 cases hq : K.os[s.i]? with
 | some p =>
  have hin := (List.getElem?_eq_some_iff.1 hq).1
  have hd : decide (s.i < K.os.length) = true := decide_eq_true hin
  have hii : (s.i : Int) < (K.os.length : Int) := by omega
  have HR := hid (show rOwn K s = ({ s with ph := 8 }, ((1 : Int), (p : Int), zW)) by unfold rOwn; rw [hq])
  obtain ⟨hq0, bm, om, hab, hbm, hcm⟩ := Sl.at HK.out.os hq
  have c0 := hcm 0 (by omega)
  simp [locE] at c0
  subst hab
  clear hcm hq0
  clear hq
  go_upto_region 3 with fail
  generalize hZ : World.setCell _ _ _ = Z
  have HEZ := hid (show Ext w Z by rw [← hZ]; exact ((HEU.out).setCell (by show w.heap.size ≤ g + 1; omega) _))
  have HZ4 := hid (show Blk Z (g + 1) (rsL { s with ph := 8 } la sa lc sc) by rw [← hZ]; exact ((HB4.out).set 0 (by simp) _))
  have HZ3 := hid (show Blk Z g (kdL T B sl rm sz pv K.ms.length K.ss.length K.os.length ma qa (some ⟨bm, om, none⟩) mc qc oc) by rw [← hZ]; exact ((HB3.out).other (by omega) _))
  have HZ5 := hid (show Blk Z (g + 1 + 1) [.int .i64 0, .int .i64 0, .int .i64 0, .int .i64 0, .int .u32 0, .int .u32 0, .slice none 0 0, .slice none 0 0] by rw [← hZ]; exact ((HB5.out).other (by omega) _))
  have HZ6 := hid (show Blk Z (g + 1 + 1 + 1) [.int .i64 0, .int .i64 0, .int .i64 0, .int .u32 0, .int .u32 0, .int .i64 0, .int .u32 0, .int .u32 0] by rw [← hZ]; exact ((HB6.out).other (by omega) _))
  clear hZ k0 k1 k2 k3 k4 k5 k6 k7 kg kf kd kdg
  have z0 := HZ4.out.2.2 0 _ rfl
  have z1 := HZ4.out.2.2 1 _ rfl
  have z2 := HZ4.out.2.2 2 _ rfl
  have z3 := HZ4.out.2.2 3 _ rfl
  have z4 := HZ4.out.2.2 4 _ rfl
  have z5 := HZ4.out.2.2 5 _ rfl
  have z6 := HZ4.out.2.2 6 _ rfl
  have z7 := HZ4.out.2.2 7 _ rfl
  have zg := HZ4.out.1
  have zd := HZ3.out.2.2 10 _ rfl
  have zdg := HZ3.out.1
  have zc := HEZ.out.cell c0
  have zcg := Nat.lt_of_lt_of_le hbm HEZ.out.size
  clear c0
  have HL_ := hid (fun w' (h : Ext Z w') => (And.intro (Nat.lt_of_lt_of_le zg h.size) (And.intro (Nat.lt_of_lt_of_le zdg h.size) (And.intro (Nat.lt_of_lt_of_le zcg h.size) (And.intro (h.cell z0) (And.intro (h.cell z1) (And.intro (h.cell z2) (And.intro (h.cell z3) (And.intro (h.cell z4) (And.intro (h.cell z5) (And.intro (h.cell z6) (And.intro (h.cell z7) (And.intro (h.cell zd) (h.cell zc))))))))))))))
  refine wp_region_facts [13, 14, 15, 16, 17, 18, 19, 20, 21] [0, 1, 2, 3, 4, 5, 6, 7, 8] rfl (fun w' => Ext Z w') (fsAt [IsV ?_, IsV ?_, IsV ?_, IsV ?_, IsV ?_, IsV ?_, IsV ?_, IsV ?_, (fun v w' => v = .agg (acE (1, (p : Int), zW)).toArray)]) (by kernel_rfl) (by kernel_rfl) ((Ext.refl _).drew) (fun w w' h he => h.trans he) (AllOn.cons (fun _ _ _ h _ => h) (AllOn.cons (fun _ _ _ h _ => h) (AllOn.cons (fun _ _ _ h _ => h) (AllOn.cons (fun _ _ _ h _ => h) (AllOn.cons (fun _ _ _ h _ => h) (AllOn.cons (fun _ _ _ h _ => h) (AllOn.cons (fun _ _ _ h _ => h) (AllOn.cons (fun _ _ _ h _ => h) (AllOn.cons (fun _ _ _ h _ => h) (AllOn.nil)))))))))) (AllOn.cons ?_ (AllOn.cons ?_ (AllOn.cons ?_ (AllOn.cons ?_ (AllOn.cons ?_ (AllOn.cons ?_ (AllOn.cons ?_ (AllOn.cons ?_ (AllOn.cons ?_ (AllOn.nil)))))))))) ?_
  rotate_left 8
  ·intro A w cx hO hD
   have e3 := evO hO 3 rfl
   clear hD hO
   refine head_val (o := ⟨_, _, _, _, _, _⟩) rfl ?_ rfl rfl ?_ ?_
   rotate_left 1
   ·simp [go_sem, e3, cx, HL_.out w cx, hii]
    try with_reducible rfl
   ·exact IsV.mk (w := w)
  ·intro A w cx hO hD
   have e2 := evO hO 2 rfl
   clear hD hO
   refine head_val (o := ⟨_, _, _, _, _, _⟩) rfl ?_ rfl rfl ?_ ?_
   rotate_left 1
   ·simp [go_sem, e2, cx, HL_.out w cx, hii]
    try with_reducible rfl
   ·exact IsV.mk (w := w)
  ·intro A w cx hO hD
   have e14 := evD (hD 1 (by kernel_rfl) 14 rfl)
   clear hD hO
   refine head_val (o := ⟨_, _, _, _, _, _⟩) rfl ?_ rfl rfl ?_ ?_
   rotate_left 1
   ·simp [go_sem, e14, cx, HL_.out w cx, hii]
    try with_reducible rfl
   ·exact IsV.mk (w := w)
  ·intro A w cx hO hD
   have e3 := evO hO 3 rfl
   clear hD hO
   refine head_val (o := ⟨_, _, _, _, _, _⟩) rfl ?_ rfl rfl ?_ ?_
   rotate_left 1
   ·simp [go_sem, e3, cx, HL_.out w cx, hii]
    try with_reducible rfl
   ·exact IsV.mk (w := w)
  ·intro A w cx hO hD
   have e16 := evD (hD 3 (by kernel_rfl) 16 rfl)
   clear hD hO
   refine head_val (o := ⟨_, _, _, _, _, _⟩) rfl ?_ rfl rfl ?_ ?_
   rotate_left 1
   ·simp [go_sem, e16, cx, HL_.out w cx, hii]
    try with_reducible rfl
   ·exact IsV.mk (w := w)
  ·intro A w cx hO hD
   have e15 := evD (hD 2 (by kernel_rfl) 15 rfl)
   have e17 := evD (hD 4 (by kernel_rfl) 17 rfl)
   clear hD hO
   refine head_val (o := ⟨_, _, _, _, _, _⟩) rfl ?_ rfl rfl ?_ ?_
   rotate_left 1
   ·simp [go_sem, e15, e17, cx, HL_.out w cx, hii]
    try with_reducible rfl
   ·exact IsV.mk (w := w)
  ·intro A w cx hO hD
   have e18 := evD (hD 5 (by kernel_rfl) 18 rfl)
   clear hD hO
   refine head_val (o := ⟨_, _, _, _, _, _⟩) rfl ?_ rfl rfl ?_ ?_
   rotate_left 1
   ·simp [go_sem, e18, cx, HL_.out w cx, hii]
    try with_reducible rfl
   ·exact IsV.mk (w := w)
  ·intro A w cx hO hD
   clear hD hO
   refine head_val (o := ⟨_, _, _, _, _, _⟩) rfl ?_ rfl rfl ?_ ?_
   rotate_left 1
   ·simp [go_sem, cx, HL_.out w cx, hii]
    try with_reducible rfl
   ·exact IsV.mk (w := w)
  ·intro A w cx hO hD
   have e19 := evD (hD 6 (by kernel_rfl) 19 rfl)
   have e20 := evD (hD 7 (by kernel_rfl) 20 rfl)
   clear hD hO
   refine head_wp (o := ⟨_, _, _, _, _, _⟩) rfl rfl ?_
   simp [go_sem, e19, e20]
   refine (ract_any _ _ _ _ _ _).mono ?_
   rintro e w' ⟨rfl, r', rfl⟩
   exact ⟨_, rfl, ⟨r', rfl⟩, rfl⟩
  intro u wx hC hF
  obtain ⟨f0, f1, f2, f3, f4, f5, f6, f7, f8, _⟩ := hF
  have g0 : u 0 = _ := f0
  have g1 : u 1 = _ := f1
  have g2 : u 2 = _ := f2
  have g3 : u 3 = _ := f3
  have g4 : u 4 = _ := f4
  have g5 : u 5 = _ := f5
  have g6 : u 6 = _ := f6
  have g7 : u 7 = _ := f7
  obtain ⟨v8, g8⟩ : ∃ v, u 8 = v := ⟨_, rfl⟩
  rw [g8] at f8
  simp only [fPut, Nat.zero_add, Nat.reduceAdd, g0, g1, g2, g3, g4, g5, g6, g7, g8, Act.put, List.setIfInBounds_toArray, List.set_cons_zero, List.set_cons_succ, List.length_cons, List.length_nil, List.drop_succ_cons, List.drop_zero]
  clear g0 g1 g2 g3 g4 g5 g6 g7 g8 f0 f1 f2 f3 f4 f5 f6 f7
  subst f8
  have HEx := hid (HEZ.out.trans hC)
  have HBx5 := hid (HZ5.out.of hC)
  have HBx6 := hid (HZ6.out.of hC)
  clear hC z0 z1 z2 z3 z4 z5 z6 z7 zg
  have y1 := HBx5.out.1
  have y2 := HBx6.out.1
  have y3 := HBx5.out.2.1
  have y4 := HBx6.out.2.1
  obtain ⟨x0, x1, x2, x3, x4, x5, x6, x7⟩ := HBx5.out.eight
  obtain ⟨v0, v1, v2, v3, v4, v5, v6, v7⟩ := HBx6.out.eight
  simp only [acE, zW]
  (repeat (first | go_values | go_skip | go_guarded | go_step | go_upon | (simp only [Int.not_lt, Int.not_le] at *; go_simp) | (go_ite <;> go_prune <;> (try go_simp))))
  obtain ⟨W, hW, hW5, hW6, hWE, W1, hG1, hG2⟩ := st16 HBx5.out HBx6.out (by omega) (.int .i64 8) (.int .i64 s.i) (.int .i64 s.j) (.int .i64 s.met.1) (.int .u32 s.met.2.1) (.int .u32 s.met.2.2) (.slice la s.ld.length lc) (.slice sa s.st.length sc) (.int .i64 1) (.int .i64 (p : Int)) (.int .i64 0) (.int .u32 0) (.int .u32 0) (.int .i64 0) (.int .u32 0) (.int .u32 0)
  try simp only [zW, Nat.cast_zero, Nat.cast_ofNat] at hW
  rw [hW]
  have HE := hid (hWE w HEx.out (by omega) (by omega))
  obtain ⟨r0, r1, r2, r3, r4, r5, r6, r7⟩ := hW5.eight
  obtain ⟨q0, q1, q2, q3, q4, q5, q6, q7⟩ := hW6.eight
  have w5 := hW5.1
  have w6 := hW6.1
  exact bodyPost_ret (v := .tuple #[.agg (rsL { s with ph := 8 } la sa lc sc).toArray, .agg (acE (1, (p : Int), zW)).toArray]) (by simp [results, Tryd.results36, go_sem, r0, r1, r2, r3, r4, r5, r6, r7, q0, q1, q2, q3, q4, q5, q6, q7, w5, w6, acE, zW]) rfl (by rw [HR.out]; exact ⟨_, la, sa, lc, sc, rfl, ⟨rfl, HS.out.ld.of wdE_len HE.out, HS.out.st.of locE_len HE.out, fun a ha => Nat.lt_of_lt_of_le (HS.out.lb a ha) HE.out.size, fun a ha => Nat.lt_of_lt_of_le (HS.out.sb a ha) HE.out.size⟩, .inl rfl, .inl rfl, HE.out⟩)
 | none =>
  have hin := List.getElem?_eq_none_iff.1 hq
  have hd : decide (s.i < K.os.length) = false := decide_eq_false (by omega)
  have hii : ¬ (s.i : Int) < (K.os.length : Int) := by omega
  cases hst : s.st with
  | nil =>
   have HR := hid (show rOwn K s = ({ s with j := 0, ph := 12 }, (0, 0, zW)) by unfold rOwn; rw [hq, hst])
   have HST := hid hst
   have hl : s.st.length = 0 := by rw [hst]; rfl
   clear hq hst
   rw [hl] at k7
   go_upto_region 9 with fail
   generalize hZ : World.setCell _ _ _ = Z
   have HEZ := hid (show Ext w Z by rw [← hZ]; exact ((((HEU.out).setCell (by show w.heap.size ≤ g + 1; omega) _)).setCell (by show w.heap.size ≤ g + 1; omega) _))
   have HZ4 := hid (show Blk Z (g + 1) (rsL { s with j := 0, ph := 12 } la sa lc sc) by rw [← hZ]; exact ((((HB4.out).set 2 (by simp) _)).set 0 (by simp) _))
   have HZ3 := hid (show Blk Z g (kdL T B sl rm sz pv K.ms.length K.ss.length K.os.length ma qa oa mc qc oc) by rw [← hZ]; exact ((((HB3.out).other (by omega) _)).other (by omega) _))
   have HZ5 := hid (show Blk Z (g + 1 + 1) [.int .i64 0, .int .i64 0, .int .i64 0, .int .i64 0, .int .u32 0, .int .u32 0, .slice none 0 0, .slice none 0 0] by rw [← hZ]; exact ((((HB5.out).other (by omega) _)).other (by omega) _))
   have HZ6 := hid (show Blk Z (g + 1 + 1 + 1) [.int .i64 0, .int .i64 0, .int .i64 0, .int .u32 0, .int .u32 0, .int .i64 0, .int .u32 0, .int .u32 0] by rw [← hZ]; exact ((((HB6.out).other (by omega) _)).other (by omega) _))
   clear hZ k0 k1 k2 k3 k4 k5 k6 k7 kg kf kd kdg
   have z0 := HZ4.out.2.2 0 _ rfl
   have z1 := HZ4.out.2.2 1 _ rfl
   have z2 := HZ4.out.2.2 2 _ rfl
   have z3 := HZ4.out.2.2 3 _ rfl
   have z4 := HZ4.out.2.2 4 _ rfl
   have z5 := HZ4.out.2.2 5 _ rfl
   have z6 := HZ4.out.2.2 6 _ rfl
   have z7 := HZ4.out.2.2 7 _ rfl
   have zg := HZ4.out.1
   rw [show ({ s with j := 0, ph := 12 } : RS).st.length = 0 from hl] at z7
   have HEx := HEZ
   have HBx5 := HZ5
   have HBx6 := HZ6
   have y1 := HBx5.out.1
   have y2 := HBx6.out.1
   have y3 := HBx5.out.2.1
   have y4 := HBx6.out.2.1
   obtain ⟨x0, x1, x2, x3, x4, x5, x6, x7⟩ := HBx5.out.eight
   obtain ⟨v0, v1, v2, v3, v4, v5, v6, v7⟩ := HBx6.out.eight
   (repeat (first | go_values | go_skip | go_guarded | go_step | go_upon | (simp only [Int.not_lt, Int.not_le] at *; go_simp) | (go_ite <;> go_prune <;> (try go_simp))))
   obtain ⟨W, hW, hW5, hW6, hWE, W1, hG1, hG2⟩ := st16 HBx5.out HBx6.out (by omega) (.int .i64 12) (.int .i64 s.i) (.int .i64 0) (.int .i64 s.met.1) (.int .u32 s.met.2.1) (.int .u32 s.met.2.2) (.slice la s.ld.length lc) (.slice sa 0 sc) (.int .i64 0) (.int .i64 0) (.int .i64 0) (.int .u32 0) (.int .u32 0) (.int .i64 0) (.int .u32 0) (.int .u32 0)
   try simp only [zW, Nat.cast_zero, Nat.cast_ofNat] at hW
   rw [hW]
   have HE := hid (hWE w HEx.out (by omega) (by omega))
   obtain ⟨r0, r1, r2, r3, r4, r5, r6, r7⟩ := hW5.eight
   obtain ⟨q0, q1, q2, q3, q4, q5, q6, q7⟩ := hW6.eight
   have w5 := hW5.1
   have w6 := hW6.1
   exact bodyPost_ret (v := .tuple #[.agg (rsL { s with j := 0, ph := 12 } la sa lc sc).toArray, .agg (acE (0, 0, zW)).toArray]) (by simp [results, Tryd.results36, go_sem, r0, r1, r2, r3, r4, r5, r6, r7, q0, q1, q2, q3, q4, q5, q6, q7, w5, w6, acE, zW, hl]) rfl (by rw [HR.out]; exact ⟨_, la, sa, lc, sc, rfl, ⟨rfl, HS.out.ld.of wdE_len HE.out, HS.out.st.of locE_len HE.out, fun a ha => Nat.lt_of_lt_of_le (HS.out.lb a ha) HE.out.size, fun a ha => Nat.lt_of_lt_of_le (HS.out.sb a ha) HE.out.size⟩, .inl rfl, .inl rfl, HE.out⟩)
  | cons p r =>
   have HR := hid (show rOwn K s = ({ s with j := 0, ph := 10 }, ((7 : Int), (p : Int), zW)) by unfold rOwn; rw [hq, hst])
   have hpos : 0 < s.st.length := by rw [hst]; simp
   have hpi : (0 : Int) < (s.st.length : Int) := by omega
   obtain ⟨hq0, bm, om, hab, hbm, hcm⟩ := Sl.at HS.out.st (show s.st[0]? = some p by rw [hst]; rfl)
   have c0 := hcm 0 (by omega)
   simp [locE] at c0
   subst hab
   clear hcm hq hst hq0
   go_upto_region 7 with fail
   generalize hZ : World.setCell _ _ _ = Z
   have HEZ := hid (show Ext w Z by rw [← hZ]; exact ((((HEU.out).setCell (by show w.heap.size ≤ g + 1; omega) _)).setCell (by show w.heap.size ≤ g + 1; omega) _))
   have HZ4 := hid (show Blk Z (g + 1) (rsL { s with j := 0, ph := 10 } la (some ⟨bm, om, none⟩) lc sc) by rw [← hZ]; exact ((((HB4.out).set 2 (by simp) _)).set 0 (by simp) _))
   have HZ3 := hid (show Blk Z g (kdL T B sl rm sz pv K.ms.length K.ss.length K.os.length ma qa oa mc qc oc) by rw [← hZ]; exact ((((HB3.out).other (by omega) _)).other (by omega) _))
   have HZ5 := hid (show Blk Z (g + 1 + 1) [.int .i64 0, .int .i64 0, .int .i64 0, .int .i64 0, .int .u32 0, .int .u32 0, .slice none 0 0, .slice none 0 0] by rw [← hZ]; exact ((((HB5.out).other (by omega) _)).other (by omega) _))
   have HZ6 := hid (show Blk Z (g + 1 + 1 + 1) [.int .i64 0, .int .i64 0, .int .i64 0, .int .u32 0, .int .u32 0, .int .i64 0, .int .u32 0, .int .u32 0] by rw [← hZ]; exact ((((HB6.out).other (by omega) _)).other (by omega) _))
   clear hZ k0 k1 k2 k3 k4 k5 k6 k7 kg kf kd kdg
   have z0 := HZ4.out.2.2 0 _ rfl
   have z1 := HZ4.out.2.2 1 _ rfl
   have z2 := HZ4.out.2.2 2 _ rfl
   have z3 := HZ4.out.2.2 3 _ rfl
   have z4 := HZ4.out.2.2 4 _ rfl
   have z5 := HZ4.out.2.2 5 _ rfl
   have z6 := HZ4.out.2.2 6 _ rfl
   have z7 := HZ4.out.2.2 7 _ rfl
   have zg := HZ4.out.1
   have zc := HEZ.out.cell c0
   have zcg := Nat.lt_of_lt_of_le hbm HEZ.out.size
   clear c0
   have HL_ := hid (fun w' (h : Ext Z w') => (And.intro (Nat.lt_of_lt_of_le zg h.size) (And.intro (Nat.lt_of_lt_of_le zcg h.size) (And.intro (h.cell z0) (And.intro (h.cell z1) (And.intro (h.cell z2) (And.intro (h.cell z3) (And.intro (h.cell z4) (And.intro (h.cell z5) (And.intro (h.cell z6) (And.intro (h.cell z7) (h.cell zc))))))))))))
   refine wp_region_facts [28, 29, 30, 31, 32, 33, 34] [0, 1, 2, 3, 4, 5, 6] rfl (fun w' => Ext Z w') (fsAt [IsV ?_, IsV ?_, IsV ?_, IsV ?_, IsV ?_, IsV ?_, (fun v w' => v = .agg (acE (7, (p : Int), zW)).toArray)]) (by kernel_rfl) (by kernel_rfl) ((Ext.refl _).drew) (fun w w' h he => h.trans he) (AllOn.cons (fun _ _ _ h _ => h) (AllOn.cons (fun _ _ _ h _ => h) (AllOn.cons (fun _ _ _ h _ => h) (AllOn.cons (fun _ _ _ h _ => h) (AllOn.cons (fun _ _ _ h _ => h) (AllOn.cons (fun _ _ _ h _ => h) (AllOn.cons (fun _ _ _ h _ => h) (AllOn.nil)))))))) (AllOn.cons ?_ (AllOn.cons ?_ (AllOn.cons ?_ (AllOn.cons ?_ (AllOn.cons ?_ (AllOn.cons ?_ (AllOn.cons ?_ (AllOn.nil)))))))) ?_
   rotate_left 6
   ·intro A w cx hO hD
    have e3 := evO hO 3 rfl
    clear hD hO
    refine head_val (o := ⟨_, _, _, _, _, _⟩) rfl ?_ rfl rfl ?_ ?_
    rotate_left 1
    ·simp [go_sem, e3, cx, HL_.out w cx, hpos, hpi]
     try with_reducible rfl
    ·exact IsV.mk (w := w)
   ·intro A w cx hO hD
    have e3 := evO hO 3 rfl
    clear hD hO
    refine head_val (o := ⟨_, _, _, _, _, _⟩) rfl ?_ rfl rfl ?_ ?_
    rotate_left 1
    ·simp [go_sem, e3, cx, HL_.out w cx, hpos, hpi]
     try with_reducible rfl
    ·exact IsV.mk (w := w)
   ·intro A w cx hO hD
    have e29 := evD (hD 1 (by kernel_rfl) 29 rfl)
    clear hD hO
    refine head_val (o := ⟨_, _, _, _, _, _⟩) rfl ?_ rfl rfl ?_ ?_
    rotate_left 1
    ·simp [go_sem, e29, cx, HL_.out w cx, hpos, hpi]
     try with_reducible rfl
    ·exact IsV.mk (w := w)
   ·intro A w cx hO hD
    have e30 := evD (hD 2 (by kernel_rfl) 30 rfl)
    clear hD hO
    refine head_val (o := ⟨_, _, _, _, _, _⟩) rfl ?_ rfl rfl ?_ ?_
    rotate_left 1
    ·simp [go_sem, e30, cx, HL_.out w cx, hpos, hpi]
     try with_reducible rfl
    ·exact IsV.mk (w := w)
   ·intro A w cx hO hD
    have e31 := evD (hD 3 (by kernel_rfl) 31 rfl)
    clear hD hO
    refine head_val (o := ⟨_, _, _, _, _, _⟩) rfl ?_ rfl rfl ?_ ?_
    rotate_left 1
    ·simp [go_sem, e31, cx, HL_.out w cx, hpos, hpi]
     try with_reducible rfl
    ·exact IsV.mk (w := w)
   ·intro A w cx hO hD
    clear hD hO
    refine head_val (o := ⟨_, _, _, _, _, _⟩) rfl ?_ rfl rfl ?_ ?_
    rotate_left 1
    ·simp [go_sem, cx, HL_.out w cx, hpos, hpi]
     try with_reducible rfl
    ·exact IsV.mk (w := w)
   ·intro A w cx hO hD
    have e32 := evD (hD 4 (by kernel_rfl) 32 rfl)
    have e33 := evD (hD 5 (by kernel_rfl) 33 rfl)
    clear hD hO
    refine head_wp (o := ⟨_, _, _, _, _, _⟩) rfl rfl ?_
    simp [go_sem, e32, e33]
    refine (ract_any _ _ _ _ _ _).mono ?_
    rintro e w' ⟨rfl, r', rfl⟩
    exact ⟨_, rfl, ⟨r', rfl⟩, rfl⟩
   intro u wx hC hF
   obtain ⟨f0, f1, f2, f3, f4, f5, f6, _⟩ := hF
   have g0 : u 0 = _ := f0
   have g1 : u 1 = _ := f1
   have g2 : u 2 = _ := f2
   have g3 : u 3 = _ := f3
   have g4 : u 4 = _ := f4
   have g5 : u 5 = _ := f5
   obtain ⟨v6, g6⟩ : ∃ v, u 6 = v := ⟨_, rfl⟩
   rw [g6] at f6
   simp only [fPut, Nat.zero_add, Nat.reduceAdd, g0, g1, g2, g3, g4, g5, g6, Act.put, List.setIfInBounds_toArray, List.set_cons_zero, List.set_cons_succ, List.length_cons, List.length_nil, List.drop_succ_cons, List.drop_zero]
   clear g0 g1 g2 g3 g4 g5 g6 f0 f1 f2 f3 f4 f5
   subst f6
   have HEx := hid (HEZ.out.trans hC)
   have HBx5 := hid (HZ5.out.of hC)
   have HBx6 := hid (HZ6.out.of hC)
   clear hC z0 z1 z2 z3 z4 z5 z6 z7 zg
   have y1 := HBx5.out.1
   have y2 := HBx6.out.1
   have y3 := HBx5.out.2.1
   have y4 := HBx6.out.2.1
   obtain ⟨x0, x1, x2, x3, x4, x5, x6, x7⟩ := HBx5.out.eight
   obtain ⟨v0, v1, v2, v3, v4, v5, v6, v7⟩ := HBx6.out.eight
   simp only [acE, zW]
   (repeat (first | go_values | go_skip | go_guarded | go_step | go_upon | (simp only [Int.not_lt, Int.not_le] at *; go_simp) | (go_ite <;> go_prune <;> (try go_simp))))
   obtain ⟨W, hW, hW5, hW6, hWE, W1, hG1, hG2⟩ := st16 HBx5.out HBx6.out (by omega) (.int .i64 10) (.int .i64 s.i) (.int .i64 0) (.int .i64 s.met.1) (.int .u32 s.met.2.1) (.int .u32 s.met.2.2) (.slice la s.ld.length lc) (.slice (some ⟨bm, om, none⟩) s.st.length sc) (.int .i64 7) (.int .i64 (p : Int)) (.int .i64 0) (.int .u32 0) (.int .u32 0) (.int .i64 0) (.int .u32 0) (.int .u32 0)
   try simp only [zW, Nat.cast_zero, Nat.cast_ofNat] at hW
   rw [hW]
   have HE := hid (hWE w HEx.out (by omega) (by omega))
   obtain ⟨r0, r1, r2, r3, r4, r5, r6, r7⟩ := hW5.eight
   obtain ⟨q0, q1, q2, q3, q4, q5, q6, q7⟩ := hW6.eight
   have w5 := hW5.1
   have w6 := hW6.1
   exact bodyPost_ret (v := .tuple #[.agg (rsL { s with j := 0, ph := 10 } la (some ⟨bm, om, none⟩) lc sc).toArray, .agg (acE (7, (p : Int), zW)).toArray]) (by simp [results, Tryd.results36, go_sem, r0, r1, r2, r3, r4, r5, r6, r7, q0, q1, q2, q3, q4, q5, q6, q7, w5, w6, acE, zW]) rfl (by rw [HR.out]; exact ⟨_, la, some ⟨bm, om, none⟩, lc, sc, rfl, ⟨rfl, HS.out.ld.of wdE_len HE.out, HS.out.st.of locE_len HE.out, fun a ha => Nat.lt_of_lt_of_le (HS.out.lb a ha) HE.out.size, fun a ha => Nat.lt_of_lt_of_le (HS.out.sb a ha) HE.out.size⟩, .inl rfl, .inl rfl, HE.out⟩)
set_option maxRecDepth 100000 in
set_option maxHeartbeats 2000000 in
theorem rstatus_any {w : World} {K : RK} {kv sv : Value} {s : RS} {T B sl rm sz : Int} {ws : List Bool} {pv : Value} {ma qa oa : Option Addr} {mc qc oc : Nat} (hk : Kw w kv K T B sl rm sz ws pv ma qa oa mc qc oc) {la sa : Option Addr} {lc sc : Nat} (hs : Rv w sv s la sa lc sc) (hi : s.i ≤ 1000000) (hst : s.st.length ≤ 1000000) :
 Calls Tryd.prog 34 #[kv, sv] w (RPost w la sa (rStatus K s)) := by
 have HK := hid hk
 have HS := hid hs
 have HH := hid (And.intro hi hst)
 have hkv := hk.val
 have hsv := hs.val
 clear hi hst hk hs
 subst hkv hsv
 go_enter Tryd.func34, Tryd.ntmps34
 go_upto_region 1 with fail
 generalize hU : World.alloc _ _ = U
 have HEU := hid (show Ext w U by rw [← hU]; (show Ext _ _; repeat first | (with_reducible first | (refine xH ?_; assumption) | exact xR _ | refine xX ?_ _ | refine xA ?_ _) | refine xD ?_ | refine xN ?_ _ | exact xR _))
 have HB3 := hid (show Blk U w.heap.size (kdL T B sl rm sz pv K.ms.length K.ss.length K.os.length ma qa oa mc qc oc) by rw [← hU]; (show Blk _ _ _; repeat first | (with_reducible first | (refine xH ?_; assumption) | refine bD ?_ | refine bX ?_ _) | (with_reducible refine bN _ _ rfl ?_; first | with_reducible rfl | (simp; done)) | (with_reducible first | refine bA ?_ _ | assumption | apply bS) | (with_reducible refine bO ?_ ?_; first | omega | (simp; omega)) | (show List.set _ _ _ = _; exact rfl) | (show _ < List.length _; simp; done)))
 have HB4 := hid (show Blk U (w.heap.size + 1) (rsL s la sa lc sc) by rw [← hU]; (show Blk _ _ _; repeat first | (with_reducible first | (refine xH ?_; assumption) | refine bD ?_ | refine bX ?_ _) | (with_reducible refine bN _ _ rfl ?_; first | with_reducible rfl | (simp; done)) | (with_reducible first | refine bA ?_ _ | assumption | apply bS) | (with_reducible refine bO ?_ ?_; first | omega | (simp; omega)) | (show List.set _ _ _ = _; exact rfl) | (show _ < List.length _; simp; done)))
 have HB5 := hid (show Blk U (w.heap.size + 1 + 1) [.int .i64 0, .int .i64 0, .int .i64 0, .int .i64 0, .int .u32 0, .int .u32 0, .slice none 0 0, .slice none 0 0] by rw [← hU]; (show Blk _ _ _; repeat first | (with_reducible first | (refine xH ?_; assumption) | refine bD ?_ | refine bX ?_ _) | (with_reducible refine bN _ _ rfl ?_; first | with_reducible rfl | (simp; done)) | (with_reducible first | refine bA ?_ _ | assumption | apply bS) | (with_reducible refine bO ?_ ?_; first | omega | (simp; omega)) | (show List.set _ _ _ = _; exact rfl) | (show _ < List.length _; simp; done)))
 have HB6 := hid (show Blk U (w.heap.size + 1 + 1 + 1) [.int .i64 0, .int .i64 0, .int .i64 0, .int .u32 0, .int .u32 0, .int .i64 0, .int .u32 0, .int .u32 0] by rw [← hU]; (show Blk _ _ _; repeat first | (with_reducible first | (refine xH ?_; assumption) | refine bD ?_ | refine bX ?_ _) | (with_reducible refine bN _ _ rfl ?_; first | with_reducible rfl | (simp; done)) | (with_reducible first | refine bA ?_ _ | assumption | apply bS) | (with_reducible refine bO ?_ ?_; first | omega | (simp; omega)) | (show List.set _ _ _ = _; exact rfl) | (show _ < List.length _; simp; done)))
 clear hU
 obtain ⟨g, hg⟩ : ∃ g, g = w.heap.size := ⟨_, rfl⟩
 have HGw := hid (show w.heap.size = g from hg.symm)
 rw [← hg] at HB3 HB4 HB5 HB6
 simp only [← hg]
 have hwg : w.heap.size ≤ g := by omega
 clear hg
 have HKU := hid (HK.out.of HEU.out)
 have HSU := hid (HS.out.of HEU.out)
 have k0 := HB4.out.2.2 0 _ rfl
 have k1 := HB4.out.2.2 1 _ rfl
 have k2 := HB4.out.2.2 2 _ rfl
 have k3 := HB4.out.2.2 3 _ rfl
 have k4 := HB4.out.2.2 4 _ rfl
 have k5 := HB4.out.2.2 5 _ rfl
 have k6 := HB4.out.2.2 6 _ rfl
 have k7 := HB4.out.2.2 7 _ rfl
 have kg := HB4.out.1
 have kf := HB4.out.2.1
 have kd := HB3.out.2.2 9 _ rfl
 have kdg := HB3.out.1
 cases hq : K.ss[s.i]? with
 | some p =>
  have hin := (List.getElem?_eq_some_iff.1 hq).1
  have hd : decide (s.i < K.ss.length) = true := decide_eq_true hin
  have hii : (s.i : Int) < (K.ss.length : Int) := by omega
  have HR := hid (show rStatus K s = ({ s with ph := 6 }, ((1 : Int), (p : Int), zW)) by unfold rStatus; rw [hq])
  obtain ⟨hq0, bm, om, hab, hbm, hcm⟩ := Sl.at HK.out.ss hq
  have c0 := hcm 0 (by omega)
  simp [locE] at c0
  subst hab
  clear hcm hq0
  clear hq
  go_upto_region 3 with fail
  generalize hZ : World.setCell _ _ _ = Z
  have HEZ := hid (show Ext w Z by rw [← hZ]; exact ((HEU.out).setCell (by show w.heap.size ≤ g + 1; omega) _))
  have HZ4 := hid (show Blk Z (g + 1) (rsL { s with ph := 6 } la sa lc sc) by rw [← hZ]; exact ((HB4.out).set 0 (by simp) _))
  have HZ3 := hid (show Blk Z g (kdL T B sl rm sz pv K.ms.length K.ss.length K.os.length ma (some ⟨bm, om, none⟩) oa mc qc oc) by rw [← hZ]; exact ((HB3.out).other (by omega) _))
  have HZ5 := hid (show Blk Z (g + 1 + 1) [.int .i64 0, .int .i64 0, .int .i64 0, .int .i64 0, .int .u32 0, .int .u32 0, .slice none 0 0, .slice none 0 0] by rw [← hZ]; exact ((HB5.out).other (by omega) _))
  have HZ6 := hid (show Blk Z (g + 1 + 1 + 1) [.int .i64 0, .int .i64 0, .int .i64 0, .int .u32 0, .int .u32 0, .int .i64 0, .int .u32 0, .int .u32 0] by rw [← hZ]; exact ((HB6.out).other (by omega) _))
  clear hZ k0 k1 k2 k3 k4 k5 k6 k7 kg kf kd kdg
  have z0 := HZ4.out.2.2 0 _ rfl
  have z1 := HZ4.out.2.2 1 _ rfl
  have z2 := HZ4.out.2.2 2 _ rfl
  have z3 := HZ4.out.2.2 3 _ rfl
  have z4 := HZ4.out.2.2 4 _ rfl
  have z5 := HZ4.out.2.2 5 _ rfl
  have z6 := HZ4.out.2.2 6 _ rfl
  have z7 := HZ4.out.2.2 7 _ rfl
  have zg := HZ4.out.1
  have zd := HZ3.out.2.2 9 _ rfl
  have zdg := HZ3.out.1
  have zc := HEZ.out.cell c0
  have zcg := Nat.lt_of_lt_of_le hbm HEZ.out.size
  clear c0
  have HL_ := hid (fun w' (h : Ext Z w') => (And.intro (Nat.lt_of_lt_of_le zg h.size) (And.intro (Nat.lt_of_lt_of_le zdg h.size) (And.intro (Nat.lt_of_lt_of_le zcg h.size) (And.intro (h.cell z0) (And.intro (h.cell z1) (And.intro (h.cell z2) (And.intro (h.cell z3) (And.intro (h.cell z4) (And.intro (h.cell z5) (And.intro (h.cell z6) (And.intro (h.cell z7) (And.intro (h.cell zd) (h.cell zc))))))))))))))
  refine wp_region_facts [13, 14, 15, 16, 17, 18, 19, 20, 21] [0, 1, 2, 3, 4, 5, 6, 7, 8] rfl (fun w' => Ext Z w') (fsAt [IsV ?_, IsV ?_, IsV ?_, IsV ?_, IsV ?_, IsV ?_, IsV ?_, IsV ?_, (fun v w' => v = .agg (acE (1, (p : Int), zW)).toArray)]) (by kernel_rfl) (by kernel_rfl) ((Ext.refl _).drew) (fun w w' h he => h.trans he) (AllOn.cons (fun _ _ _ h _ => h) (AllOn.cons (fun _ _ _ h _ => h) (AllOn.cons (fun _ _ _ h _ => h) (AllOn.cons (fun _ _ _ h _ => h) (AllOn.cons (fun _ _ _ h _ => h) (AllOn.cons (fun _ _ _ h _ => h) (AllOn.cons (fun _ _ _ h _ => h) (AllOn.cons (fun _ _ _ h _ => h) (AllOn.cons (fun _ _ _ h _ => h) (AllOn.nil)))))))))) (AllOn.cons ?_ (AllOn.cons ?_ (AllOn.cons ?_ (AllOn.cons ?_ (AllOn.cons ?_ (AllOn.cons ?_ (AllOn.cons ?_ (AllOn.cons ?_ (AllOn.cons ?_ (AllOn.nil)))))))))) ?_
  rotate_left 8
  ·intro A w cx hO hD
   have e3 := evO hO 3 rfl
   clear hD hO
   refine head_val (o := ⟨_, _, _, _, _, _⟩) rfl ?_ rfl rfl ?_ ?_
   rotate_left 1
   ·simp [go_sem, e3, cx, HL_.out w cx, hii]
    try with_reducible rfl
   ·exact IsV.mk (w := w)
  ·intro A w cx hO hD
   have e2 := evO hO 2 rfl
   clear hD hO
   refine head_val (o := ⟨_, _, _, _, _, _⟩) rfl ?_ rfl rfl ?_ ?_
   rotate_left 1
   ·simp [go_sem, e2, cx, HL_.out w cx, hii]
    try with_reducible rfl
   ·exact IsV.mk (w := w)
  ·intro A w cx hO hD
   have e14 := evD (hD 1 (by kernel_rfl) 14 rfl)
   clear hD hO
   refine head_val (o := ⟨_, _, _, _, _, _⟩) rfl ?_ rfl rfl ?_ ?_
   rotate_left 1
   ·simp [go_sem, e14, cx, HL_.out w cx, hii]
    try with_reducible rfl
   ·exact IsV.mk (w := w)
  ·intro A w cx hO hD
   have e3 := evO hO 3 rfl
   clear hD hO
   refine head_val (o := ⟨_, _, _, _, _, _⟩) rfl ?_ rfl rfl ?_ ?_
   rotate_left 1
   ·simp [go_sem, e3, cx, HL_.out w cx, hii]
    try with_reducible rfl
   ·exact IsV.mk (w := w)
  ·intro A w cx hO hD
   have e16 := evD (hD 3 (by kernel_rfl) 16 rfl)
   clear hD hO
   refine head_val (o := ⟨_, _, _, _, _, _⟩) rfl ?_ rfl rfl ?_ ?_
   rotate_left 1
   ·simp [go_sem, e16, cx, HL_.out w cx, hii]
    try with_reducible rfl
   ·exact IsV.mk (w := w)
  ·intro A w cx hO hD
   have e15 := evD (hD 2 (by kernel_rfl) 15 rfl)
   have e17 := evD (hD 4 (by kernel_rfl) 17 rfl)
   clear hD hO
   refine head_val (o := ⟨_, _, _, _, _, _⟩) rfl ?_ rfl rfl ?_ ?_
   rotate_left 1
   ·simp [go_sem, e15, e17, cx, HL_.out w cx, hii]
    try with_reducible rfl
   ·exact IsV.mk (w := w)
  ·intro A w cx hO hD
   have e18 := evD (hD 5 (by kernel_rfl) 18 rfl)
   clear hD hO
   refine head_val (o := ⟨_, _, _, _, _, _⟩) rfl ?_ rfl rfl ?_ ?_
   rotate_left 1
   ·simp [go_sem, e18, cx, HL_.out w cx, hii]
    try with_reducible rfl
   ·exact IsV.mk (w := w)
  ·intro A w cx hO hD
   clear hD hO
   refine head_val (o := ⟨_, _, _, _, _, _⟩) rfl ?_ rfl rfl ?_ ?_
   rotate_left 1
   ·simp [go_sem, cx, HL_.out w cx, hii]
    try with_reducible rfl
   ·exact IsV.mk (w := w)
  ·intro A w cx hO hD
   have e19 := evD (hD 6 (by kernel_rfl) 19 rfl)
   have e20 := evD (hD 7 (by kernel_rfl) 20 rfl)
   clear hD hO
   refine head_wp (o := ⟨_, _, _, _, _, _⟩) rfl rfl ?_
   simp [go_sem, e19, e20]
   refine (ract_any _ _ _ _ _ _).mono ?_
   rintro e w' ⟨rfl, r', rfl⟩
   exact ⟨_, rfl, ⟨r', rfl⟩, rfl⟩
  intro u wx hC hF
  obtain ⟨f0, f1, f2, f3, f4, f5, f6, f7, f8, _⟩ := hF
  have g0 : u 0 = _ := f0
  have g1 : u 1 = _ := f1
  have g2 : u 2 = _ := f2
  have g3 : u 3 = _ := f3
  have g4 : u 4 = _ := f4
  have g5 : u 5 = _ := f5
  have g6 : u 6 = _ := f6
  have g7 : u 7 = _ := f7
  obtain ⟨v8, g8⟩ : ∃ v, u 8 = v := ⟨_, rfl⟩
  rw [g8] at f8
  simp only [fPut, Nat.zero_add, Nat.reduceAdd, g0, g1, g2, g3, g4, g5, g6, g7, g8, Act.put, List.setIfInBounds_toArray, List.set_cons_zero, List.set_cons_succ, List.length_cons, List.length_nil, List.drop_succ_cons, List.drop_zero]
  clear g0 g1 g2 g3 g4 g5 g6 g7 g8 f0 f1 f2 f3 f4 f5 f6 f7
  subst f8
  have HEx := hid (HEZ.out.trans hC)
  have HBx5 := hid (HZ5.out.of hC)
  have HBx6 := hid (HZ6.out.of hC)
  clear hC z0 z1 z2 z3 z4 z5 z6 z7 zg
  have y1 := HBx5.out.1
  have y2 := HBx6.out.1
  have y3 := HBx5.out.2.1
  have y4 := HBx6.out.2.1
  obtain ⟨x0, x1, x2, x3, x4, x5, x6, x7⟩ := HBx5.out.eight
  obtain ⟨v0, v1, v2, v3, v4, v5, v6, v7⟩ := HBx6.out.eight
  simp only [acE, zW]
  (repeat (first | go_values | go_skip | go_guarded | go_step | go_upon | (simp only [Int.not_lt, Int.not_le] at *; go_simp) | (go_ite <;> go_prune <;> (try go_simp))))
  obtain ⟨W, hW, hW5, hW6, hWE, W1, hG1, hG2⟩ := st16 HBx5.out HBx6.out (by omega) (.int .i64 6) (.int .i64 s.i) (.int .i64 s.j) (.int .i64 s.met.1) (.int .u32 s.met.2.1) (.int .u32 s.met.2.2) (.slice la s.ld.length lc) (.slice sa s.st.length sc) (.int .i64 1) (.int .i64 (p : Int)) (.int .i64 0) (.int .u32 0) (.int .u32 0) (.int .i64 0) (.int .u32 0) (.int .u32 0)
  try simp only [zW, Nat.cast_zero, Nat.cast_ofNat] at hW
  rw [hW]
  have HE := hid (hWE w HEx.out (by omega) (by omega))
  obtain ⟨r0, r1, r2, r3, r4, r5, r6, r7⟩ := hW5.eight
  obtain ⟨q0, q1, q2, q3, q4, q5, q6, q7⟩ := hW6.eight
  have w5 := hW5.1
  have w6 := hW6.1
  exact bodyPost_ret (v := .tuple #[.agg (rsL { s with ph := 6 } la sa lc sc).toArray, .agg (acE (1, (p : Int), zW)).toArray]) (by simp [results, Tryd.results34, go_sem, r0, r1, r2, r3, r4, r5, r6, r7, q0, q1, q2, q3, q4, q5, q6, q7, w5, w6, acE, zW]) rfl (by rw [HR.out]; exact ⟨_, la, sa, lc, sc, rfl, ⟨rfl, HS.out.ld.of wdE_len HE.out, HS.out.st.of locE_len HE.out, fun a ha => Nat.lt_of_lt_of_le (HS.out.lb a ha) HE.out.size, fun a ha => Nat.lt_of_lt_of_le (HS.out.sb a ha) HE.out.size⟩, .inl rfl, .inl rfl, HE.out⟩)
 | none =>
  have hin := List.getElem?_eq_none_iff.1 hq
  have hd : decide (s.i < K.ss.length) = false := decide_eq_false (by omega)
  have hii : ¬ (s.i : Int) < (K.ss.length : Int) := by omega
  have HRq := hid (show rStatus K s = rOwn K { s with i := 0 } by unfold rStatus; rw [hq])
  clear hq
  go_upto_region 5 with fail
  generalize hZ : World.setCell _ _ _ = Z
  have HEZ := hid (show Ext w Z by rw [← hZ]; exact ((HEU.out).setCell (by show w.heap.size ≤ g + 1; omega) _))
  have HZ4 := hid (show Blk Z (g + 1) (rsL { s with i := 0 } la sa lc sc) by rw [← hZ]; exact ((HB4.out).set 1 (by simp) _))
  have HZ3 := hid (show Blk Z g (kdL T B sl rm sz pv K.ms.length K.ss.length K.os.length ma qa oa mc qc oc) by rw [← hZ]; exact ((HB3.out).other (by omega) _))
  have HZ5 := hid (show Blk Z (g + 1 + 1) [.int .i64 0, .int .i64 0, .int .i64 0, .int .i64 0, .int .u32 0, .int .u32 0, .slice none 0 0, .slice none 0 0] by rw [← hZ]; exact ((HB5.out).other (by omega) _))
  have HZ6 := hid (show Blk Z (g + 1 + 1 + 1) [.int .i64 0, .int .i64 0, .int .i64 0, .int .u32 0, .int .u32 0, .int .i64 0, .int .u32 0, .int .u32 0] by rw [← hZ]; exact ((HB6.out).other (by omega) _))
  have z0 := HZ4.out.2.2 0 _ rfl
  have z1 := HZ4.out.2.2 1 _ rfl
  have z2 := HZ4.out.2.2 2 _ rfl
  have z3 := HZ4.out.2.2 3 _ rfl
  have z4 := HZ4.out.2.2 4 _ rfl
  have z5 := HZ4.out.2.2 5 _ rfl
  have z6 := HZ4.out.2.2 6 _ rfl
  have z7 := HZ4.out.2.2 7 _ rfl
  have zg := HZ4.out.1
  clear hZ k0 k1 k2 k3 k4 k5 k6 k7 kg kf kd kdg
  have d0 := HZ3.out.2.2 0 _ rfl
  have d1 := HZ3.out.2.2 1 _ rfl
  have d2 := HZ3.out.2.2 2 _ rfl
  have d3 := HZ3.out.2.2 3 _ rfl
  have d4 := HZ3.out.2.2 4 _ rfl
  have d5 := HZ3.out.2.2 5 _ rfl
  have d6 := HZ3.out.2.2 6 _ rfl
  have d7 := HZ3.out.2.2 7 _ rfl
  have d8 := HZ3.out.2.2 8 _ rfl
  have d9 := HZ3.out.2.2 9 _ rfl
  have d10 := HZ3.out.2.2 10 _ rfl
  have dg := HZ3.out.1
  have HKZ := hid (HK.out.of HEZ.out)
  have HSZ := hid (show Rv Z (.agg (rsL { s with i := 0 } la sa lc sc).toArray) { s with i := 0 } la sa lc sc from ⟨rfl, HS.out.ld.of wdE_len HEZ.out, HS.out.st.of locE_len HEZ.out, fun a ha => Nat.lt_of_lt_of_le (HS.out.lb a ha) HEZ.out.size, fun a ha => Nat.lt_of_lt_of_le (HS.out.sb a ha) HEZ.out.size⟩)
  obtain ⟨r, hr⟩ : ∃ r, r = rOwn K { s with i := 0 } := ⟨_, rfl⟩
  have HC := hid (rown_any HKZ.out HSZ.out (by have := HH.out.1; show _ ≤ _; dsimp only; omega) HH.out.2)
  rw [← hr] at HC
  have HR := hid (show rStatus K s = r by rw [hr]; exact HRq.out)
  clear hr
  obtain ⟨⟨ph2, i2, j2, ⟨m2, m3, m4⟩, ld2, st2⟩, op2, at2, a3, a4, a5⟩ := r
  go_wp2_with (go_call HC.out as e w' ⟨v, la2, sa2, lc2, sc2, rfl, ⟨rfl, hl2, hs2, hb2, hc2⟩, hn1, hn2, he2⟩; have HB2 := hid hb2; have HC2 := hid hc2; have HN1 := hid hn1; have HN2 := hid hn2; clear hb2 hc2 hn1 hn2; have HEx := hid (HEZ.out.trans he2); have HBx5 := hid (HZ5.out.of he2); have HBx6 := hid (HZ6.out.of he2); have HL2 := hid hl2; have HS2 := hid hs2; clear hl2 hs2 he2; have y1 := HBx5.out.1; have y2' := HBx6.out.1; have y3 := HBx5.out.2.1; have y4 := HBx6.out.2.1; obtain ⟨x0, x1, x2, x3, x4, x5, x6, x7⟩ := HBx5.out.eight; obtain ⟨v0, v1, v2, v3, v4, v5, v6, v7⟩ := HBx6.out.eight; simp only [acE])
  obtain ⟨W, hW, hW5, hW6, hWE, W1, hG1, hG2⟩ := st16 HBx5.out HBx6.out (by omega) (.int .i64 ph2) (.int .i64 i2) (.int .i64 j2) (.int .i64 m2) (.int .u32 m3) (.int .u32 m4) (.slice la2 ld2.length lc2) (.slice sa2 st2.length sc2) (.int .i64 op2) (.int .i64 at2) (.int .i64 0) (.int .u32 0) (.int .u32 0) (.int .i64 a3) (.int .u32 a4) (.int .u32 a5)
  rw [hW]
  have HE := hid (hWE w HEx.out (by omega) (by omega))
  have HSz := hid (Nat.le_trans hG1.size hG2.size)
  have HZs := hid HZ6.out.1
  have HWl := hid (HL2.out.two wdE_len hG1 hG2 (HN1.out.ne HS.out.lb (by omega) (by have := HZs.out; omega)) (HN1.out.ne HS.out.lb (by omega) (by have := HZs.out; omega)))
  have HWs := hid (HS2.out.two locE_len hG1 hG2 (HN2.out.ne HS.out.sb (by omega) (by have := HZs.out; omega)) (HN2.out.ne HS.out.sb (by omega) (by have := HZs.out; omega)))
  obtain ⟨r0, r1, r2, r3, r4, r5, r6, r7⟩ := hW5.eight
  obtain ⟨q0, q1, q2, q3, q4, q5, q6, q7⟩ := hW6.eight
  have w5 := hW5.1
  have w6 := hW6.1
  exact bodyPost_ret (v := .tuple #[.agg #[.int .i64 ph2, .int .i64 i2, .int .i64 j2, .int .i64 m2, .int .u32 m3, .int .u32 m4, .slice la2 ld2.length lc2, .slice sa2 st2.length sc2], .agg #[.int .i64 op2, .int .i64 at2, .int .i64 0, .int .u32 0, .int .u32 0, .int .i64 a3, .int .u32 a4, .int .u32 a5]]) (by simp [results, Tryd.results34, go_sem, r0, r1, r2, r3, r4, r5, r6, r7, q0, q1, q2, q3, q4, q5, q6, q7, w5, w6]) rfl (by rw [HR.out]; exact ⟨_, la2, sa2, lc2, sc2, rfl, ⟨rfl, HWl.out, HWs.out, fun a ha => Nat.lt_of_lt_of_le (HB2.out a ha) HSz.out, fun a ha => Nat.lt_of_lt_of_le (HC2.out a ha) HSz.out⟩, HN1.out.mono HEZ.out.size, HN2.out.mono HEZ.out.size, HE.out⟩)
set_option maxRecDepth 100000 in
set_option maxHeartbeats 2000000 in
theorem rword_any {w : World} {K : RK} {kv sv : Value} {s : RS} {T B sl rm sz : Int} {ws : List Bool} {pv : Value} {ma qa oa : Option Addr} {mc qc oc : Nat} (hk : Kw w kv K T B sl rm sz ws pv ma qa oa mc qc oc) {la sa : Option Addr} {lc sc : Nat} (hs : Rv w sv s la sa lc sc) (hi : s.i ≤ 1000000) (hst : s.st.length ≤ 1000000) :
 Calls Tryd.prog 29 #[kv, sv] w (RPost w la sa (rWord K s)) := by
 have HK := hid hk
 have HS := hid hs
 have HH := hid (And.intro hi hst)
 have hkv := hk.val
 have hsv := hs.val
 clear hi hst hk hs
 subst hkv hsv
 go_enter Tryd.func29, Tryd.ntmps29
 go_upto_region 1 with fail
 generalize hU : World.alloc _ _ = U
 have HEU := hid (show Ext w U by rw [← hU]; (show Ext _ _; repeat first | (with_reducible first | (refine xH ?_; assumption) | exact xR _ | refine xX ?_ _ | refine xA ?_ _) | refine xD ?_ | refine xN ?_ _ | exact xR _))
 have HB3 := hid (show Blk U w.heap.size (kdL T B sl rm sz pv K.ms.length K.ss.length K.os.length ma qa oa mc qc oc) by rw [← hU]; (show Blk _ _ _; repeat first | (with_reducible first | (refine xH ?_; assumption) | refine bD ?_ | refine bX ?_ _) | (with_reducible refine bN _ _ rfl ?_; first | with_reducible rfl | (simp; done)) | (with_reducible first | refine bA ?_ _ | assumption | apply bS) | (with_reducible refine bO ?_ ?_; first | omega | (simp; omega)) | (show List.set _ _ _ = _; exact rfl) | (show _ < List.length _; simp; done)))
 have HB4 := hid (show Blk U (w.heap.size + 1) (rsL s la sa lc sc) by rw [← hU]; (show Blk _ _ _; repeat first | (with_reducible first | (refine xH ?_; assumption) | refine bD ?_ | refine bX ?_ _) | (with_reducible refine bN _ _ rfl ?_; first | with_reducible rfl | (simp; done)) | (with_reducible first | refine bA ?_ _ | assumption | apply bS) | (with_reducible refine bO ?_ ?_; first | omega | (simp; omega)) | (show List.set _ _ _ = _; exact rfl) | (show _ < List.length _; simp; done)))
 have HB5 := hid (show Blk U (w.heap.size + 1 + 1) [.int .i64 0, .int .i64 0, .int .i64 0, .int .i64 0, .int .u32 0, .int .u32 0, .slice none 0 0, .slice none 0 0] by rw [← hU]; (show Blk _ _ _; repeat first | (with_reducible first | (refine xH ?_; assumption) | refine bD ?_ | refine bX ?_ _) | (with_reducible refine bN _ _ rfl ?_; first | with_reducible rfl | (simp; done)) | (with_reducible first | refine bA ?_ _ | assumption | apply bS) | (with_reducible refine bO ?_ ?_; first | omega | (simp; omega)) | (show List.set _ _ _ = _; exact rfl) | (show _ < List.length _; simp; done)))
 have HB6 := hid (show Blk U (w.heap.size + 1 + 1 + 1) [.int .i64 0, .int .i64 0, .int .i64 0, .int .u32 0, .int .u32 0, .int .i64 0, .int .u32 0, .int .u32 0] by rw [← hU]; (show Blk _ _ _; repeat first | (with_reducible first | (refine xH ?_; assumption) | refine bD ?_ | refine bX ?_ _) | (with_reducible refine bN _ _ rfl ?_; first | with_reducible rfl | (simp; done)) | (with_reducible first | refine bA ?_ _ | assumption | apply bS) | (with_reducible refine bO ?_ ?_; first | omega | (simp; omega)) | (show List.set _ _ _ = _; exact rfl) | (show _ < List.length _; simp; done)))
 clear hU
 obtain ⟨g, hg⟩ : ∃ g, g = w.heap.size := ⟨_, rfl⟩
 have HGw := hid (show w.heap.size = g from hg.symm)
 rw [← hg] at HB3 HB4 HB5 HB6
 simp only [← hg]
 have hwg : w.heap.size ≤ g := by omega
 clear hg
 have HKU := hid (HK.out.of HEU.out)
 have HSU := hid (HS.out.of HEU.out)
 have k0 := HB4.out.2.2 0 _ rfl
 have k1 := HB4.out.2.2 1 _ rfl
 have k2 := HB4.out.2.2 2 _ rfl
 have k3 := HB4.out.2.2 3 _ rfl
 have k4 := HB4.out.2.2 4 _ rfl
 have k5 := HB4.out.2.2 5 _ rfl
 have k6 := HB4.out.2.2 6 _ rfl
 have k7 := HB4.out.2.2 7 _ rfl
 have kg := HB4.out.1
 have kf := HB4.out.2.1
 have kd := HB3.out.2.2 8 _ rfl
 have kdg := HB3.out.1
 cases hq : K.ms[s.i]? with
 | some p =>
  have hin := (List.getElem?_eq_some_iff.1 hq).1
  have hd : decide (s.i < K.ms.length) = true := decide_eq_true hin
  have hii : (s.i : Int) < (K.ms.length : Int) := by omega
  have HR := hid (show rWord K s = ({ s with ph := 1 }, ((1 : Int), (p : Int), zW)) by unfold rWord; rw [hq])
  obtain ⟨hq0, bm, om, hab, hbm, hcm⟩ := Sl.at HK.out.ms hq
  have c0 := hcm 0 (by omega)
  simp [locE] at c0
  subst hab
  clear hcm hq0
  clear hq
  go_upto_region 3 with fail
  generalize hZ : World.setCell _ _ _ = Z
  have HEZ := hid (show Ext w Z by rw [← hZ]; exact ((HEU.out).setCell (by show w.heap.size ≤ g + 1; omega) _))
  have HZ4 := hid (show Blk Z (g + 1) (rsL { s with ph := 1 } la sa lc sc) by rw [← hZ]; exact ((HB4.out).set 0 (by simp) _))
  have HZ3 := hid (show Blk Z g (kdL T B sl rm sz pv K.ms.length K.ss.length K.os.length (some ⟨bm, om, none⟩) qa oa mc qc oc) by rw [← hZ]; exact ((HB3.out).other (by omega) _))
  have HZ5 := hid (show Blk Z (g + 1 + 1) [.int .i64 0, .int .i64 0, .int .i64 0, .int .i64 0, .int .u32 0, .int .u32 0, .slice none 0 0, .slice none 0 0] by rw [← hZ]; exact ((HB5.out).other (by omega) _))
  have HZ6 := hid (show Blk Z (g + 1 + 1 + 1) [.int .i64 0, .int .i64 0, .int .i64 0, .int .u32 0, .int .u32 0, .int .i64 0, .int .u32 0, .int .u32 0] by rw [← hZ]; exact ((HB6.out).other (by omega) _))
  clear hZ k0 k1 k2 k3 k4 k5 k6 k7 kg kf kd kdg
  have z0 := HZ4.out.2.2 0 _ rfl
  have z1 := HZ4.out.2.2 1 _ rfl
  have z2 := HZ4.out.2.2 2 _ rfl
  have z3 := HZ4.out.2.2 3 _ rfl
  have z4 := HZ4.out.2.2 4 _ rfl
  have z5 := HZ4.out.2.2 5 _ rfl
  have z6 := HZ4.out.2.2 6 _ rfl
  have z7 := HZ4.out.2.2 7 _ rfl
  have zg := HZ4.out.1
  have zd := HZ3.out.2.2 8 _ rfl
  have zdg := HZ3.out.1
  have zc := HEZ.out.cell c0
  have zcg := Nat.lt_of_lt_of_le hbm HEZ.out.size
  clear c0
  have HL_ := hid (fun w' (h : Ext Z w') => (And.intro (Nat.lt_of_lt_of_le zg h.size) (And.intro (Nat.lt_of_lt_of_le zdg h.size) (And.intro (Nat.lt_of_lt_of_le zcg h.size) (And.intro (h.cell z0) (And.intro (h.cell z1) (And.intro (h.cell z2) (And.intro (h.cell z3) (And.intro (h.cell z4) (And.intro (h.cell z5) (And.intro (h.cell z6) (And.intro (h.cell z7) (And.intro (h.cell zd) (h.cell zc))))))))))))))
  refine wp_region_facts [13, 14, 15, 16, 17, 18, 19, 20, 21] [0, 1, 2, 3, 4, 5, 6, 7, 8] rfl (fun w' => Ext Z w') (fsAt [IsV ?_, IsV ?_, IsV ?_, IsV ?_, IsV ?_, IsV ?_, IsV ?_, IsV ?_, (fun v w' => v = .agg (acE (1, (p : Int), zW)).toArray)]) (by kernel_rfl) (by kernel_rfl) ((Ext.refl _).drew) (fun w w' h he => h.trans he) (AllOn.cons (fun _ _ _ h _ => h) (AllOn.cons (fun _ _ _ h _ => h) (AllOn.cons (fun _ _ _ h _ => h) (AllOn.cons (fun _ _ _ h _ => h) (AllOn.cons (fun _ _ _ h _ => h) (AllOn.cons (fun _ _ _ h _ => h) (AllOn.cons (fun _ _ _ h _ => h) (AllOn.cons (fun _ _ _ h _ => h) (AllOn.cons (fun _ _ _ h _ => h) (AllOn.nil)))))))))) (AllOn.cons ?_ (AllOn.cons ?_ (AllOn.cons ?_ (AllOn.cons ?_ (AllOn.cons ?_ (AllOn.cons ?_ (AllOn.cons ?_ (AllOn.cons ?_ (AllOn.cons ?_ (AllOn.nil)))))))))) ?_
  rotate_left 8
  ·intro A w cx hO hD
   have e3 := evO hO 3 rfl
   clear hD hO
   refine head_val (o := ⟨_, _, _, _, _, _⟩) rfl ?_ rfl rfl ?_ ?_
   rotate_left 1
   ·simp [go_sem, e3, cx, HL_.out w cx, hii]
    try with_reducible rfl
   ·exact IsV.mk (w := w)
  ·intro A w cx hO hD
   have e2 := evO hO 2 rfl
   clear hD hO
   refine head_val (o := ⟨_, _, _, _, _, _⟩) rfl ?_ rfl rfl ?_ ?_
   rotate_left 1
   ·simp [go_sem, e2, cx, HL_.out w cx, hii]
    try with_reducible rfl
   ·exact IsV.mk (w := w)
  ·intro A w cx hO hD
   have e14 := evD (hD 1 (by kernel_rfl) 14 rfl)
   clear hD hO
   refine head_val (o := ⟨_, _, _, _, _, _⟩) rfl ?_ rfl rfl ?_ ?_
   rotate_left 1
   ·simp [go_sem, e14, cx, HL_.out w cx, hii]
    try with_reducible rfl
   ·exact IsV.mk (w := w)
  ·intro A w cx hO hD
   have e3 := evO hO 3 rfl
   clear hD hO
   refine head_val (o := ⟨_, _, _, _, _, _⟩) rfl ?_ rfl rfl ?_ ?_
   rotate_left 1
   ·simp [go_sem, e3, cx, HL_.out w cx, hii]
    try with_reducible rfl
   ·exact IsV.mk (w := w)
  ·intro A w cx hO hD
   have e16 := evD (hD 3 (by kernel_rfl) 16 rfl)
   clear hD hO
   refine head_val (o := ⟨_, _, _, _, _, _⟩) rfl ?_ rfl rfl ?_ ?_
   rotate_left 1
   ·simp [go_sem, e16, cx, HL_.out w cx, hii]
    try with_reducible rfl
   ·exact IsV.mk (w := w)
  ·intro A w cx hO hD
   have e15 := evD (hD 2 (by kernel_rfl) 15 rfl)
   have e17 := evD (hD 4 (by kernel_rfl) 17 rfl)
   clear hD hO
   refine head_val (o := ⟨_, _, _, _, _, _⟩) rfl ?_ rfl rfl ?_ ?_
   rotate_left 1
   ·simp [go_sem, e15, e17, cx, HL_.out w cx, hii]
    try with_reducible rfl
   ·exact IsV.mk (w := w)
  ·intro A w cx hO hD
   have e18 := evD (hD 5 (by kernel_rfl) 18 rfl)
   clear hD hO
   refine head_val (o := ⟨_, _, _, _, _, _⟩) rfl ?_ rfl rfl ?_ ?_
   rotate_left 1
   ·simp [go_sem, e18, cx, HL_.out w cx, hii]
    try with_reducible rfl
   ·exact IsV.mk (w := w)
  ·intro A w cx hO hD
   clear hD hO
   refine head_val (o := ⟨_, _, _, _, _, _⟩) rfl ?_ rfl rfl ?_ ?_
   rotate_left 1
   ·simp [go_sem, cx, HL_.out w cx, hii]
    try with_reducible rfl
   ·exact IsV.mk (w := w)
  ·intro A w cx hO hD
   have e19 := evD (hD 6 (by kernel_rfl) 19 rfl)
   have e20 := evD (hD 7 (by kernel_rfl) 20 rfl)
   clear hD hO
   refine head_wp (o := ⟨_, _, _, _, _, _⟩) rfl rfl ?_
   simp [go_sem, e19, e20]
   refine (ract_any _ _ _ _ _ _).mono ?_
   rintro e w' ⟨rfl, r', rfl⟩
   exact ⟨_, rfl, ⟨r', rfl⟩, rfl⟩
  intro u wx hC hF
  obtain ⟨f0, f1, f2, f3, f4, f5, f6, f7, f8, _⟩ := hF
  have g0 : u 0 = _ := f0
  have g1 : u 1 = _ := f1
  have g2 : u 2 = _ := f2
  have g3 : u 3 = _ := f3
  have g4 : u 4 = _ := f4
  have g5 : u 5 = _ := f5
  have g6 : u 6 = _ := f6
  have g7 : u 7 = _ := f7
  obtain ⟨v8, g8⟩ : ∃ v, u 8 = v := ⟨_, rfl⟩
  rw [g8] at f8
  simp only [fPut, Nat.zero_add, Nat.reduceAdd, g0, g1, g2, g3, g4, g5, g6, g7, g8, Act.put, List.setIfInBounds_toArray, List.set_cons_zero, List.set_cons_succ, List.length_cons, List.length_nil, List.drop_succ_cons, List.drop_zero]
  clear g0 g1 g2 g3 g4 g5 g6 g7 g8 f0 f1 f2 f3 f4 f5 f6 f7
  subst f8
  have HEx := hid (HEZ.out.trans hC)
  have HBx5 := hid (HZ5.out.of hC)
  have HBx6 := hid (HZ6.out.of hC)
  clear hC z0 z1 z2 z3 z4 z5 z6 z7 zg
  have y1 := HBx5.out.1
  have y2 := HBx6.out.1
  have y3 := HBx5.out.2.1
  have y4 := HBx6.out.2.1
  obtain ⟨x0, x1, x2, x3, x4, x5, x6, x7⟩ := HBx5.out.eight
  obtain ⟨v0, v1, v2, v3, v4, v5, v6, v7⟩ := HBx6.out.eight
  simp only [acE, zW]
  (repeat (first | go_values | go_skip | go_guarded | go_step | go_upon | (simp only [Int.not_lt, Int.not_le] at *; go_simp) | (go_ite <;> go_prune <;> (try go_simp))))
  obtain ⟨W, hW, hW5, hW6, hWE, W1, hG1, hG2⟩ := st16 HBx5.out HBx6.out (by omega) (.int .i64 1) (.int .i64 s.i) (.int .i64 s.j) (.int .i64 s.met.1) (.int .u32 s.met.2.1) (.int .u32 s.met.2.2) (.slice la s.ld.length lc) (.slice sa s.st.length sc) (.int .i64 1) (.int .i64 (p : Int)) (.int .i64 0) (.int .u32 0) (.int .u32 0) (.int .i64 0) (.int .u32 0) (.int .u32 0)
  try simp only [zW, Nat.cast_zero, Nat.cast_ofNat] at hW
  rw [hW]
  have HE := hid (hWE w HEx.out (by omega) (by omega))
  obtain ⟨r0, r1, r2, r3, r4, r5, r6, r7⟩ := hW5.eight
  obtain ⟨q0, q1, q2, q3, q4, q5, q6, q7⟩ := hW6.eight
  have w5 := hW5.1
  have w6 := hW6.1
  exact bodyPost_ret (v := .tuple #[.agg (rsL { s with ph := 1 } la sa lc sc).toArray, .agg (acE (1, (p : Int), zW)).toArray]) (by simp [results, Tryd.results29, go_sem, r0, r1, r2, r3, r4, r5, r6, r7, q0, q1, q2, q3, q4, q5, q6, q7, w5, w6, acE, zW]) rfl (by rw [HR.out]; exact ⟨_, la, sa, lc, sc, rfl, ⟨rfl, HS.out.ld.of wdE_len HE.out, HS.out.st.of locE_len HE.out, fun a ha => Nat.lt_of_lt_of_le (HS.out.lb a ha) HE.out.size, fun a ha => Nat.lt_of_lt_of_le (HS.out.sb a ha) HE.out.size⟩, .inl rfl, .inl rfl, HE.out⟩)
 | none =>
  have hin := List.getElem?_eq_none_iff.1 hq
  have hd : decide (s.i < K.ms.length) = false := decide_eq_false (by omega)
  have hii : ¬ (s.i : Int) < (K.ms.length : Int) := by omega
  cases hst : s.st with
  | nil =>
   have HRq := hid (show rWord K s = rStatus K { s with i := 0, j := 0 } by unfold rWord; rw [hq, hst])
   have hnp : ¬ (0 : Int) < (s.st.length : Int) := by rw [hst]; decide
   have hnq : ¬ 0 < s.st.length := by omega
   clear hq hst
   go_upto_region 8 with fail
   generalize hZ : World.setCell _ _ _ = Z
   have HEZ := hid (show Ext w Z by rw [← hZ]; exact ((((HEU.out).setCell (by show w.heap.size ≤ g + 1; omega) _)).setCell (by show w.heap.size ≤ g + 1; omega) _))
   have HZ4 := hid (show Blk Z (g + 1) (rsL { s with i := 0, j := 0 } la sa lc sc) by rw [← hZ]; exact ((((HB4.out).set 1 (by simp) _)).set 2 (by simp) _))
   have HZ3 := hid (show Blk Z g (kdL T B sl rm sz pv K.ms.length K.ss.length K.os.length ma qa oa mc qc oc) by rw [← hZ]; exact ((((HB3.out).other (by omega) _)).other (by omega) _))
   have HZ5 := hid (show Blk Z (g + 1 + 1) [.int .i64 0, .int .i64 0, .int .i64 0, .int .i64 0, .int .u32 0, .int .u32 0, .slice none 0 0, .slice none 0 0] by rw [← hZ]; exact ((((HB5.out).other (by omega) _)).other (by omega) _))
   have HZ6 := hid (show Blk Z (g + 1 + 1 + 1) [.int .i64 0, .int .i64 0, .int .i64 0, .int .u32 0, .int .u32 0, .int .i64 0, .int .u32 0, .int .u32 0] by rw [← hZ]; exact ((((HB6.out).other (by omega) _)).other (by omega) _))
   have z0 := HZ4.out.2.2 0 _ rfl
   have z1 := HZ4.out.2.2 1 _ rfl
   have z2 := HZ4.out.2.2 2 _ rfl
   have z3 := HZ4.out.2.2 3 _ rfl
   have z4 := HZ4.out.2.2 4 _ rfl
   have z5 := HZ4.out.2.2 5 _ rfl
   have z6 := HZ4.out.2.2 6 _ rfl
   have z7 := HZ4.out.2.2 7 _ rfl
   have zg := HZ4.out.1
   clear hZ k0 k1 k2 k3 k4 k5 k6 k7 kg kf kd kdg
   have d0 := HZ3.out.2.2 0 _ rfl
   have d1 := HZ3.out.2.2 1 _ rfl
   have d2 := HZ3.out.2.2 2 _ rfl
   have d3 := HZ3.out.2.2 3 _ rfl
   have d4 := HZ3.out.2.2 4 _ rfl
   have d5 := HZ3.out.2.2 5 _ rfl
   have d6 := HZ3.out.2.2 6 _ rfl
   have d7 := HZ3.out.2.2 7 _ rfl
   have d8 := HZ3.out.2.2 8 _ rfl
   have d9 := HZ3.out.2.2 9 _ rfl
   have d10 := HZ3.out.2.2 10 _ rfl
   have dg := HZ3.out.1
   have HKZ := hid (HK.out.of HEZ.out)
   have HSZ := hid (show Rv Z (.agg (rsL { s with i := 0, j := 0 } la sa lc sc).toArray) { s with i := 0, j := 0 } la sa lc sc from ⟨rfl, HS.out.ld.of wdE_len HEZ.out, HS.out.st.of locE_len HEZ.out, fun a ha => Nat.lt_of_lt_of_le (HS.out.lb a ha) HEZ.out.size, fun a ha => Nat.lt_of_lt_of_le (HS.out.sb a ha) HEZ.out.size⟩)
   obtain ⟨r, hr⟩ : ∃ r, r = rStatus K { s with i := 0, j := 0 } := ⟨_, rfl⟩
   have HC := hid (rstatus_any HKZ.out HSZ.out (by have := HH.out.1; show _ ≤ _; dsimp only; omega) HH.out.2)
   rw [← hr] at HC
   have HR := hid (show rWord K s = r by rw [hr]; exact HRq.out)
   clear hr
   obtain ⟨⟨ph2, i2, j2, ⟨m2, m3, m4⟩, ld2, st2⟩, op2, at2, a3, a4, a5⟩ := r
   go_wp2_with (go_call HC.out as e w' ⟨v, la2, sa2, lc2, sc2, rfl, ⟨rfl, hl2, hs2, hb2, hc2⟩, hn1, hn2, he2⟩; have HB2 := hid hb2; have HC2 := hid hc2; have HN1 := hid hn1; have HN2 := hid hn2; clear hb2 hc2 hn1 hn2; have HEx := hid (HEZ.out.trans he2); have HBx5 := hid (HZ5.out.of he2); have HBx6 := hid (HZ6.out.of he2); have HL2 := hid hl2; have HS2 := hid hs2; clear hl2 hs2 he2; have y1 := HBx5.out.1; have y2' := HBx6.out.1; have y3 := HBx5.out.2.1; have y4 := HBx6.out.2.1; obtain ⟨x0, x1, x2, x3, x4, x5, x6, x7⟩ := HBx5.out.eight; obtain ⟨v0, v1, v2, v3, v4, v5, v6, v7⟩ := HBx6.out.eight; simp only [acE])
   obtain ⟨W, hW, hW5, hW6, hWE, W1, hG1, hG2⟩ := st16 HBx5.out HBx6.out (by omega) (.int .i64 ph2) (.int .i64 i2) (.int .i64 j2) (.int .i64 m2) (.int .u32 m3) (.int .u32 m4) (.slice la2 ld2.length lc2) (.slice sa2 st2.length sc2) (.int .i64 op2) (.int .i64 at2) (.int .i64 0) (.int .u32 0) (.int .u32 0) (.int .i64 a3) (.int .u32 a4) (.int .u32 a5)
   rw [hW]
   have HE := hid (hWE w HEx.out (by omega) (by omega))
   have HSz := hid (Nat.le_trans hG1.size hG2.size)
   have HZs := hid HZ6.out.1
   have HWl := hid (HL2.out.two wdE_len hG1 hG2 (HN1.out.ne HS.out.lb (by omega) (by have := HZs.out; omega)) (HN1.out.ne HS.out.lb (by omega) (by have := HZs.out; omega)))
   have HWs := hid (HS2.out.two locE_len hG1 hG2 (HN2.out.ne HS.out.sb (by omega) (by have := HZs.out; omega)) (HN2.out.ne HS.out.sb (by omega) (by have := HZs.out; omega)))
   obtain ⟨r0, r1, r2, r3, r4, r5, r6, r7⟩ := hW5.eight
   obtain ⟨q0, q1, q2, q3, q4, q5, q6, q7⟩ := hW6.eight
   have w5 := hW5.1
   have w6 := hW6.1
   exact bodyPost_ret (v := .tuple #[.agg #[.int .i64 ph2, .int .i64 i2, .int .i64 j2, .int .i64 m2, .int .u32 m3, .int .u32 m4, .slice la2 ld2.length lc2, .slice sa2 st2.length sc2], .agg #[.int .i64 op2, .int .i64 at2, .int .i64 0, .int .u32 0, .int .u32 0, .int .i64 a3, .int .u32 a4, .int .u32 a5]]) (by simp [results, Tryd.results29, go_sem, r0, r1, r2, r3, r4, r5, r6, r7, q0, q1, q2, q3, q4, q5, q6, q7, w5, w6]) rfl (by rw [HR.out]; exact ⟨_, la2, sa2, lc2, sc2, rfl, ⟨rfl, HWl.out, HWs.out, fun a ha => Nat.lt_of_lt_of_le (HB2.out a ha) HSz.out, fun a ha => Nat.lt_of_lt_of_le (HC2.out a ha) HSz.out⟩, HN1.out.mono HEZ.out.size, HN2.out.mono HEZ.out.size, HE.out⟩)
  | cons p r =>
   have HR := hid (show rWord K s = ({ s with i := 0, j := 0, ph := 4 }, ((7 : Int), (p : Int), zW)) by unfold rWord; rw [hq, hst])
   have hpos : 0 < s.st.length := by rw [hst]; simp
   have hpi : (0 : Int) < (s.st.length : Int) := by omega
   obtain ⟨hq0, bm, om, hab, hbm, hcm⟩ := Sl.at HS.out.st (show s.st[0]? = some p by rw [hst]; rfl)
   have c0 := hcm 0 (by omega)
   simp [locE] at c0
   subst hab
   clear hcm hq hst hq0
   go_upto_region 7 with fail
   generalize hZ : World.setCell _ _ _ = Z
   have HEZ := hid (show Ext w Z by rw [← hZ]; exact ((((((HEU.out).setCell (by show w.heap.size ≤ g + 1; omega) _)).setCell (by show w.heap.size ≤ g + 1; omega) _)).setCell (by show w.heap.size ≤ g + 1; omega) _))
   have HZ4 := hid (show Blk Z (g + 1) (rsL { s with i := 0, j := 0, ph := 4 } la (some ⟨bm, om, none⟩) lc sc) by rw [← hZ]; exact ((((((HB4.out).set 1 (by simp) _)).set 2 (by simp) _)).set 0 (by simp) _))
   have HZ3 := hid (show Blk Z g (kdL T B sl rm sz pv K.ms.length K.ss.length K.os.length ma qa oa mc qc oc) by rw [← hZ]; exact ((((((HB3.out).other (by omega) _)).other (by omega) _)).other (by omega) _))
   have HZ5 := hid (show Blk Z (g + 1 + 1) [.int .i64 0, .int .i64 0, .int .i64 0, .int .i64 0, .int .u32 0, .int .u32 0, .slice none 0 0, .slice none 0 0] by rw [← hZ]; exact ((((((HB5.out).other (by omega) _)).other (by omega) _)).other (by omega) _))
   have HZ6 := hid (show Blk Z (g + 1 + 1 + 1) [.int .i64 0, .int .i64 0, .int .i64 0, .int .u32 0, .int .u32 0, .int .i64 0, .int .u32 0, .int .u32 0] by rw [← hZ]; exact ((((((HB6.out).other (by omega) _)).other (by omega) _)).other (by omega) _))
   clear hZ k0 k1 k2 k3 k4 k5 k6 k7 kg kf kd kdg
   have z0 := HZ4.out.2.2 0 _ rfl
   have z1 := HZ4.out.2.2 1 _ rfl
   have z2 := HZ4.out.2.2 2 _ rfl
   have z3 := HZ4.out.2.2 3 _ rfl
   have z4 := HZ4.out.2.2 4 _ rfl
   have z5 := HZ4.out.2.2 5 _ rfl
   have z6 := HZ4.out.2.2 6 _ rfl
   have z7 := HZ4.out.2.2 7 _ rfl
   have zg := HZ4.out.1
   have zc := HEZ.out.cell c0
   have zcg := Nat.lt_of_lt_of_le hbm HEZ.out.size
   clear c0
   have HL_ := hid (fun w' (h : Ext Z w') => (And.intro (Nat.lt_of_lt_of_le zg h.size) (And.intro (Nat.lt_of_lt_of_le zcg h.size) (And.intro (h.cell z0) (And.intro (h.cell z1) (And.intro (h.cell z2) (And.intro (h.cell z3) (And.intro (h.cell z4) (And.intro (h.cell z5) (And.intro (h.cell z6) (And.intro (h.cell z7) (h.cell zc))))))))))))
   refine wp_region_facts [29, 30, 31, 32, 33, 34, 35] [0, 1, 2, 3, 4, 5, 6] rfl (fun w' => Ext Z w') (fsAt [IsV ?_, IsV ?_, IsV ?_, IsV ?_, IsV ?_, IsV ?_, (fun v w' => v = .agg (acE (7, (p : Int), zW)).toArray)]) (by kernel_rfl) (by kernel_rfl) ((Ext.refl _).drew) (fun w w' h he => h.trans he) (AllOn.cons (fun _ _ _ h _ => h) (AllOn.cons (fun _ _ _ h _ => h) (AllOn.cons (fun _ _ _ h _ => h) (AllOn.cons (fun _ _ _ h _ => h) (AllOn.cons (fun _ _ _ h _ => h) (AllOn.cons (fun _ _ _ h _ => h) (AllOn.cons (fun _ _ _ h _ => h) (AllOn.nil)))))))) (AllOn.cons ?_ (AllOn.cons ?_ (AllOn.cons ?_ (AllOn.cons ?_ (AllOn.cons ?_ (AllOn.cons ?_ (AllOn.cons ?_ (AllOn.nil)))))))) ?_
   rotate_left 6
   ·intro A w cx hO hD
    have e3 := evO hO 3 rfl
    clear hD hO
    refine head_val (o := ⟨_, _, _, _, _, _⟩) rfl ?_ rfl rfl ?_ ?_
    rotate_left 1
    ·simp [go_sem, e3, cx, HL_.out w cx, hpos, hpi]
     try with_reducible rfl
    ·exact IsV.mk (w := w)
   ·intro A w cx hO hD
    have e3 := evO hO 3 rfl
    clear hD hO
    refine head_val (o := ⟨_, _, _, _, _, _⟩) rfl ?_ rfl rfl ?_ ?_
    rotate_left 1
    ·simp [go_sem, e3, cx, HL_.out w cx, hpos, hpi]
     try with_reducible rfl
    ·exact IsV.mk (w := w)
   ·intro A w cx hO hD
    have e30 := evD (hD 1 (by kernel_rfl) 30 rfl)
    clear hD hO
    refine head_val (o := ⟨_, _, _, _, _, _⟩) rfl ?_ rfl rfl ?_ ?_
    rotate_left 1
    ·simp [go_sem, e30, cx, HL_.out w cx, hpos, hpi]
     try with_reducible rfl
    ·exact IsV.mk (w := w)
   ·intro A w cx hO hD
    have e31 := evD (hD 2 (by kernel_rfl) 31 rfl)
    clear hD hO
    refine head_val (o := ⟨_, _, _, _, _, _⟩) rfl ?_ rfl rfl ?_ ?_
    rotate_left 1
    ·simp [go_sem, e31, cx, HL_.out w cx, hpos, hpi]
     try with_reducible rfl
    ·exact IsV.mk (w := w)
   ·intro A w cx hO hD
    have e32 := evD (hD 3 (by kernel_rfl) 32 rfl)
    clear hD hO
    refine head_val (o := ⟨_, _, _, _, _, _⟩) rfl ?_ rfl rfl ?_ ?_
    rotate_left 1
    ·simp [go_sem, e32, cx, HL_.out w cx, hpos, hpi]
     try with_reducible rfl
    ·exact IsV.mk (w := w)
   ·intro A w cx hO hD
    clear hD hO
    refine head_val (o := ⟨_, _, _, _, _, _⟩) rfl ?_ rfl rfl ?_ ?_
    rotate_left 1
    ·simp [go_sem, cx, HL_.out w cx, hpos, hpi]
     try with_reducible rfl
    ·exact IsV.mk (w := w)
   ·intro A w cx hO hD
    have e33 := evD (hD 4 (by kernel_rfl) 33 rfl)
    have e34 := evD (hD 5 (by kernel_rfl) 34 rfl)
    clear hD hO
    refine head_wp (o := ⟨_, _, _, _, _, _⟩) rfl rfl ?_
    simp [go_sem, e33, e34]
    refine (ract_any _ _ _ _ _ _).mono ?_
    rintro e w' ⟨rfl, r', rfl⟩
    exact ⟨_, rfl, ⟨r', rfl⟩, rfl⟩
   intro u wx hC hF
   obtain ⟨f0, f1, f2, f3, f4, f5, f6, _⟩ := hF
   have g0 : u 0 = _ := f0
   have g1 : u 1 = _ := f1
   have g2 : u 2 = _ := f2
   have g3 : u 3 = _ := f3
   have g4 : u 4 = _ := f4
   have g5 : u 5 = _ := f5
   obtain ⟨v6, g6⟩ : ∃ v, u 6 = v := ⟨_, rfl⟩
   rw [g6] at f6
   simp only [fPut, Nat.zero_add, Nat.reduceAdd, g0, g1, g2, g3, g4, g5, g6, Act.put, List.setIfInBounds_toArray, List.set_cons_zero, List.set_cons_succ, List.length_cons, List.length_nil, List.drop_succ_cons, List.drop_zero]
   clear g0 g1 g2 g3 g4 g5 g6 f0 f1 f2 f3 f4 f5
   subst f6
   have HEx := hid (HEZ.out.trans hC)
   have HBx5 := hid (HZ5.out.of hC)
   have HBx6 := hid (HZ6.out.of hC)
   clear hC z0 z1 z2 z3 z4 z5 z6 z7 zg
   have y1 := HBx5.out.1
   have y2 := HBx6.out.1
   have y3 := HBx5.out.2.1
   have y4 := HBx6.out.2.1
   obtain ⟨x0, x1, x2, x3, x4, x5, x6, x7⟩ := HBx5.out.eight
   obtain ⟨v0, v1, v2, v3, v4, v5, v6, v7⟩ := HBx6.out.eight
   simp only [acE, zW]
   (repeat (first | go_values | go_skip | go_guarded | go_step | go_upon | (simp only [Int.not_lt, Int.not_le] at *; go_simp) | (go_ite <;> go_prune <;> (try go_simp))))
   obtain ⟨W, hW, hW5, hW6, hWE, W1, hG1, hG2⟩ := st16 HBx5.out HBx6.out (by omega) (.int .i64 4) (.int .i64 0) (.int .i64 0) (.int .i64 s.met.1) (.int .u32 s.met.2.1) (.int .u32 s.met.2.2) (.slice la s.ld.length lc) (.slice (some ⟨bm, om, none⟩) s.st.length sc) (.int .i64 7) (.int .i64 (p : Int)) (.int .i64 0) (.int .u32 0) (.int .u32 0) (.int .i64 0) (.int .u32 0) (.int .u32 0)
   try simp only [zW, Nat.cast_zero, Nat.cast_ofNat] at hW
   rw [hW]
   have HE := hid (hWE w HEx.out (by omega) (by omega))
   obtain ⟨r0, r1, r2, r3, r4, r5, r6, r7⟩ := hW5.eight
   obtain ⟨q0, q1, q2, q3, q4, q5, q6, q7⟩ := hW6.eight
   have w5 := hW5.1
   have w6 := hW6.1
   exact bodyPost_ret (v := .tuple #[.agg (rsL { s with i := 0, j := 0, ph := 4 } la (some ⟨bm, om, none⟩) lc sc).toArray, .agg (acE (7, (p : Int), zW)).toArray]) (by simp [results, Tryd.results29, go_sem, r0, r1, r2, r3, r4, r5, r6, r7, q0, q1, q2, q3, q4, q5, q6, q7, w5, w6, acE, zW]) rfl (by rw [HR.out]; exact ⟨_, la, some ⟨bm, om, none⟩, lc, sc, rfl, ⟨rfl, HS.out.ld.of wdE_len HE.out, HS.out.st.of locE_len HE.out, fun a ha => Nat.lt_of_lt_of_le (HS.out.lb a ha) HE.out.size, fun a ha => Nat.lt_of_lt_of_le (HS.out.sb a ha) HE.out.size⟩, .inl rfl, .inl rfl, HE.out⟩)
end Go.Proofs.YtdpbcfjfnclpiaaDoor
