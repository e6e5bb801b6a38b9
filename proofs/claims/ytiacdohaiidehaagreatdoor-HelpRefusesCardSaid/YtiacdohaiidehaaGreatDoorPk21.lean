/- The machine: New, Word; the world of tasks: stop. The world of tasks: Step at every pick, told of states. Which message a Load reads: history's Choose, plain numbers. Which message a Load reads: the walks of history's Choose and memory's picker. -/
import Derived.Test.YtiacdohaiidehaaGreatDoorPk20
namespace Go.Proofs.YtiacdohaiidehaaGreatDoor
set_option linter.unusedSimpArgs false
set_option linter.unusedVariables false
open Go.RowKit Go.Maps
theorem mk_ints (n : Nat) (hn : n ≤ 100000) (w : World) : (Instr.makeSlice 87 (.int .i64 n) (.int .i64 n)).run Tryz.prog w =
 .ok (.slice (some ⟨w.heap.size, 0, none⟩) n n) (w.alloc (.cells (madeCells #[.int .i64 0] (n * 1)) 3)) := by
 obtain ⟨i0, hi, hz0, hz1, hz2⟩ := info_parts Tryz.info_it
 have := run_make (P := Tryz.prog) w 87 3 i0 _ Tryz.underlying87 hi hz0 .i64 .i64 n n (by omega) (by omega) (by rw [hz2]; omega) (by omega)
 have hcs : (Value.int .i64 0).cells = #[.int .i64 0] := by simp [Value.cells]
 rw [hz1, hcs] at this
 simpa using this
set_option maxRecDepth 100000 in
set_option maxHeartbeats 1000000 in
theorem mcword_any {w : World} {P : Nat → Prop} {pa va fa la sa : Option Addr} {pn pc vn vc fn fc ln lc sn sc : Nat} (q : Option Nat) (cr : Int) {m : Mc} (h : McR w P (.slice pa pn pc) (.slice va vn vc) (.slice fa fn fc) (.slice la ln lc) (.slice sa sn sc) m) (i : Nat) (l : List Mg) (hl : m.me.pl[i]? = some l) (hpn : pn ≤ 4096) (x1 x2 x3 t : Int) (f : Int → Nat) (hm : l[l.length - 1]? = some ⟨(x1, x2, x3), t, f⟩) (hlen : l.length ≤ 1000000) :
 Calls Tryz.prog 23 #[.agg #[.slice pa pn pc, .slice va vn vc, .slice fa fn fc, .slice la ln lc, .map q, .slice sa sn sc, .int .i64 cr], .int .i64 i] w fun e w' => e = .returned (.tuple #[.agg #[.int .i64 x1, .int .u32 x2, .int .u32 x3], .bool true]) ∧ Ext w w' := by
 have HC := hid (fun (W : World) (he : Ext w W) => mlast_any va vn vc ((h.of he).1.1) i l hl (by omega) x1 x2 x3 t f hm hlen)
 clear h hl hpn hm hlen
 go_enter Tryz.func23, Tryz.ntmps23
 go_wp2_with fail
 refine (HC.out _ (by exact exP)).mono ?_
 rintro e w1 ⟨rfl, r1, rfl⟩
 (repeat (first | go_values | go_skip | go_guarded | go_step | go_upon | (simp only [Int.not_lt, Int.not_le] at *; go_simp) | (go_ite <;> go_prune <;> (try go_simp))))
 exact bodyPost_ret (v := .tuple #[.agg #[.int .i64 x1, .int .u32 x2, .int .u32 x3], .bool true]) (by simp [results, Tryz.results23, go_sem]) rfl ⟨rfl, by exact exF⟩
set_option maxRecDepth 100000 in
set_option maxHeartbeats 1000000 in
theorem mcnew_any {w : World} {a : Option Addr} {k c : Nat} {ws : List Wd} (hw : Sl w 3 wdE (.slice a k c) ws) (hk1 : 1 ≤ k) (hk2 : k ≤ 4096) (n : Nat) (hn1 : 1 ≤ n) (hn2 : n ≤ 8) (nl : Nat) (hnl : nl = (k + 7) / 8) :
 Calls Tryz.prog 53 #[.int .i64 n, .slice a k c] w fun e w' => ∃ pa pc va vc fa fc la sa, e = .returned (.tuple #[.agg #[.slice pa k pc, .slice va n vc, .slice fa k fc, .slice la nl nl, .map none, .slice sa n n, .int .i64 0], .int .i64 0]) ∧ Ext w w' ∧ McR w' (fun b => w.heap.size ≤ b) (.slice pa k pc) (.slice va n vc) (.slice fa k fc) (.slice la nl nl) (.slice sa n n) ⟨⟨ws.map (fun x => [⟨x, 0, fun _ => 0⟩]), List.replicate n (fun _ => 0)⟩, ⟨ws, List.replicate nl ([], 0)⟩, List.replicate n 0⟩ := by
 have HM := hid (fun (W : World) (he : Ext w W) => mNew_any (w := W) (hw.of wdE_len he) hk1 hk2 n hn1 hn2)
 have HL := hid (fun (W : World) (he : Ext w W) => lnew_any (w := W) (hw.of wdE_len he) hk2 nl hnl)
 have hmk := mk_ints n (by omega)
 have HNn := hid (show n ≤ 8 from hn2)
 clear hw hk1 hk2 hn1 hn2 hnl
 go_enter Tryz.func53, Tryz.ntmps53
 go_wp2_with fail
 generalize hV_ : World.alloc _ _ = V
 have HE_V := hid (show Ext w V by rw [← hV_]; exact exP)
 have HB_b4 := hid (show Blk V (w.heap.size) [.slice none 0 0, .slice none 0 0, .slice none 0 0, .slice none 0 0, .map none, .slice none 0 0, .int .i64 0] by rw [← hV_]; exact bkP)
 clear hV_
 obtain ⟨b4, hg_b4⟩ : ∃ g, g = w.heap.size := ⟨_, rfl⟩
 simp only [← hg_b4] at HB_b4 ⊢
 have HN_V := hid (show b4 = w.heap.size ∧ b4 < V.heap.size from ⟨hg_b4, HB_b4.out.1⟩)
 clear hg_b4
 refine (HM.out V HE_V.out).mono ?_
 rintro e w1 ⟨pa, pc, va, vc, rfl, he, hm⟩
 have HE_1 := hid (HE_V.out.trans he)
 have HMe := hid hm
 have HVs := hid (show Ext V w1 from he)
 clear he hm
 go_wp2_with fail
 generalize hV_ : World.alloc _ _ = U
 have HE_U := hid (show Ext w1 U by rw [← hV_]; exact exP)
 have HB_b6 := hid (show Blk U (w1.heap.size) [.slice pa k pc, .slice va n vc] by rw [← hV_]; exact bkP)
 clear hV_
 obtain ⟨b6, hg_b6⟩ : ∃ g, g = w1.heap.size := ⟨_, rfl⟩
 simp only [← hg_b6] at HB_b6 ⊢
 have HN_U := hid (show b6 = w1.heap.size ∧ b6 < U.heap.size from ⟨hg_b6, HB_b6.out.1⟩)
 clear hg_b6
 refine (HL.out U (HE_1.out.trans HE_U.out)).mono ?_
 rintro e w2 ⟨fa, fc, la, rfl, he, hm⟩
 have HE_2 := hid ((HE_1.out.trans HE_U.out).trans he)
 have HLn := hid hm
 have HUs := hid (show Ext U w2 from he)
 clear he hm
 go_upto_region 7 with fail
 generalize hV_ : World.alloc _ _ = X
 have HE_X := hid (show Ext w2 X by rw [← hV_]; exact exP)
 have HB_b8 := hid (show Blk X (w2.heap.size) [.slice fa k fc, .slice la nl nl, .map none] by rw [← hV_]; exact bkP)
 clear hV_
 obtain ⟨b8, hg_b8⟩ : ∃ g, g = w2.heap.size := ⟨_, rfl⟩
 simp only [← hg_b8] at HB_b8 ⊢
 have HN_X := hid (show b8 = w2.heap.size ∧ b8 < X.heap.size from ⟨hg_b8, HB_b8.out.1⟩)
 clear hg_b8
 have HB4 := hid (HB_b4.out.of (((HVs.out.trans HE_U.out).trans HUs.out).trans HE_X.out))
 have HB6 := hid (HB_b6.out.of (HUs.out.trans HE_X.out))
 have HNx := hid (show w.heap.size ≤ b4 ∧ b4 < V.heap.size from ⟨by have := HN_V.out; omega, by have := HN_V.out; omega⟩)
 have a0 := (HB6.out).2.2 0 _ rfl
 have a1 := (HB6.out).2.2 1 _ rfl
 have af := (HB6.out).2.1
 have ag := (HB6.out).1
 have c0 := (HB_b8.out).2.2 0 _ rfl
 have c1 := (HB_b8.out).2.2 1 _ rfl
 have c2 := (HB_b8.out).2.2 2 _ rfl
 have cf := (HB_b8.out).2.1
 have cg := (HB_b8.out).1
 have HL_ := hid (fun w' (h : Ext X w') => (And.intro (Nat.lt_of_lt_of_le ag h.size) (And.intro (Nat.lt_of_lt_of_le cg h.size) (And.intro (h.cell a0) (And.intro (h.cell a1) (And.intro (h.cell c0) (And.intro (h.cell c1) (h.cell c2))))))))
 refine wp_region_facts [28, 29, 30, 31, 32] [0, 1, 2, 3, 4] rfl (fun w' => Ext X w') (fsAt [IsV ?_, IsV ?_, IsV ?_, (fun v w' => ∃ b, v = .slice (some ⟨b, 0, none⟩) n n ∧ w'.heap[b]? = some (.cells (madeCells #[.int .i64 0] (n * 1)) 3 (0, 0)) ∧ X.heap.size ≤ b), (fun v w' => ∃ b, v = .agg #[.slice pa k pc, .slice va n vc, .slice fa k fc, .slice la nl nl, .map none, .slice (some ⟨b, 0, none⟩) n n, .int .i64 0] ∧ w'.heap[b]? = some (.cells (madeCells #[.int .i64 0] (n * 1)) 3 (0, 0)) ∧ X.heap.size ≤ b)]) (by kernel_rfl) (by kernel_rfl) ((Ext.refl _).drew) (fun w w' h he => h.trans he) (aC (fun _ _ _ h _ => h) (aC (fun _ _ _ h _ => h) (aC (fun _ _ _ h _ => h) (aC (fun _ _ _ h he => by obtain ⟨q, h1, h2, h3⟩ := h; exact ⟨q, h1, heap_of_ext he h2, h3⟩) (aC (fun _ _ _ h he => by obtain ⟨q, h1, h2, h3⟩ := h; exact ⟨q, h1, heap_of_ext he h2, h3⟩) (AllOn.nil)))))) (aC ?_ (aC ?_ (aC ?_ (aC ?_ (aC ?_ (AllOn.nil)))))) ?_
 rotate_left 3
 ·intro A w cx hO hD
  have e6 := evO hO 6 rfl
  clear hD hO
  refine hdV rfl ?_ rfl rfl ?_ ?_
  rotate_left 1
  ·simp [go_sem, e6, cx, HL_.out w cx]
   try with_reducible rfl
  ·exact IsV.mk (w := w)
 ·intro A w cx hO hD
  have e8 := evO hO 8 rfl
  clear hD hO
  refine hdV rfl ?_ rfl rfl ?_ ?_
  rotate_left 1
  ·simp [go_sem, e8, cx, HL_.out w cx]
   try with_reducible rfl
  ·exact IsV.mk (w := w)
 ·intro A w cx hO hD
  have e0 := evO hO 0 rfl
  clear hD hO
  refine hdV rfl ?_ rfl rfl ?_ ?_
  rotate_left 1
  ·simp [go_sem, e0, cx, HL_.out w cx]
   try with_reducible rfl
  ·exact IsV.mk (w := w)
 ·intro A w cx hO hD
  have e30 := evD (hD 2 (by kernel_rfl) 30 rfl)
  clear hD hO
  refine hdW rfl rfl ?_
  simp [go_sem, e30, hmk]
  exact ⟨_, rfl, Ext.of_alloc _ _, _, rfl, heap_new rfl, cx.size⟩
 ·intro A w cx hO hD
  have e28 := evD (hD 0 (by kernel_rfl) 28 rfl)
  have e29 := evD (hD 1 (by kernel_rfl) 29 rfl)
  have e31 := hD 3 (by kernel_rfl) 31 rfl
  rw [ev_tm] at e31
  clear hD hO
  refine hdW rfl rfl ?_
  obtain ⟨b, e31, h1, h2⟩ := e31
  simp [go_sem, e28, e29, e31]
  exact ⟨_, rfl, Ext.refl _, b, rfl, by simpa using h1, h2⟩
 intro u wx hC hF
 obtain ⟨f0, f1, f2, f3, f4, _⟩ := hF
 have g0 : u 0 = _ := f0
 have g1 : u 1 = _ := f1
 have g2 : u 2 = _ := f2
 obtain ⟨v3, g3⟩ : ∃ v, u 3 = v := ⟨_, rfl⟩
 rw [g3] at f3
 obtain ⟨v4, g4⟩ : ∃ v, u 4 = v := ⟨_, rfl⟩
 rw [g4] at f4
 simp only [fPut, Nat.zero_add, Nat.reduceAdd, g0, g1, g2, g3, g4, Act.put, List.setIfInBounds_toArray, List.set_cons_zero, List.set_cons_succ, List.length_cons, List.length_nil, List.drop_succ_cons, List.drop_zero]
 clear g0 g1 g2 g3 g4 f0 f1 f2
 clear f3
 obtain ⟨bs, rfl, hb1, hb2⟩ := f4
 have HC := hid hC
 have h4 := HB4.out.of hC
 clear hC a0 a1 af ag c0 c1 c2 cf cg
 have d0 := h4.2.2 0 _ rfl
 have d1 := h4.2.2 1 _ rfl
 have d2 := h4.2.2 2 _ rfl
 have d3 := h4.2.2 3 _ rfl
 have d4 := h4.2.2 4 _ rfl
 have d5 := h4.2.2 5 _ rfl
 have d6 := h4.2.2 6 _ rfl
 have df := h4.2.1
 have dg := h4.1
 clear h4
 (repeat (first | go_values | go_skip | go_guarded | go_step | go_upon | (simp only [Int.not_lt, Int.not_le] at *; go_simp) | (go_ite <;> go_prune <;> (try go_simp))))
 refine bodyPost_ret (v := .tuple #[.agg #[.slice pa k pc, .slice va n vc, .slice fa k fc, .slice la nl nl, .map none, .slice (some ⟨bs, 0, none⟩) n n, .int .i64 0], .int .i64 0]) (by simp [results, Tryz.results53, go_sem, d0, d1, d2, d3, d4, d5, d6, df, dg]) rfl ⟨pa, pc, va, vc, fa, fc, la, _, rfl, ?_⟩
 generalize hZ_ : World.setCell _ _ _ = Z
 have hgz : GrL [b4] wx Z := by rw [← hZ_]; exact glP
 clear hZ_
 have hnx := HNx.out
 have hsv := HVs.out.size
 have hsu := HUs.out.size
 have hse := HE_U.out.size
 have hsx := HE_X.out.size
 have hwv := HE_V.out.size
 have hk : ∀ (W : World), V.heap.size ≤ W.heap.size → KpB (fun b => W.heap.size ≤ b) wx Z := fun W hW => hgz.kp (fun g hg h => by simp only [List.mem_cons, List.not_mem_nil, or_false] at hg; subst hg; have h2 : W.heap.size ≤ g := h; omega)
 refine ⟨((HE_2.out.trans HE_X.out).trans HC.out).grl hgz (by simp; omega), ?_, ?_, ?_⟩
 ·exact ((((HMe.out.imp (P' := fun b => V.heap.size ≤ b) (fun b hb => hb.1)).of ((HE_U.out.trans HUs.out).trans (HE_X.out.trans HC.out))).kp (hk V (Nat.le_refl _)))).imp (fun b hb => Nat.le_trans hwv hb)
 ·exact ((((HLn.out.imp (P' := fun b => U.heap.size ≤ b) (fun b hb => hb.1)).of (HE_X.out.trans HC.out)).kp (hk U (by omega)))).imp (fun b hb => by have hb : U.heap.size ≤ b := hb; show w.heap.size ≤ b; omega)
 ·have hbo : Z.heap[bs]? = some (.cells (madeCells #[.int .i64 0] (n * 1)) 3 (0, 0)) := by rw [hgz.block (Array.getElem?_eq_some_iff.1 hb1).1 (by simp; omega)]; exact hb1
  exact Sp.own itvE_len (own_of_heap (n := n) (base := X.heap.size) hbo hb2 (made1_get (x := (0 : Int)) rfl n) (by rw [flat_len itvE_len]; simp) (by simp) (by have := HNn.out; unfold maxLen; omega)) (fun b hb => by show w.heap.size ≤ b; omega)
open Go.RowKit Go.Maps
theorem McR.vlen {w : World} {P : Nat → Prop} {pv fv lv sv : Value} {va : Option Addr} {vn vc : Nat} {m : Mc} (h : McR w P pv (.slice va vn vc) fv lv sv m) : vn = m.me.vs.length := by
 obtain ⟨qs, h1, h2, _⟩ := h.1.2
 have := h1.lenN
 omega
theorem McR.plen {w : World} {P : Nat → Prop} {vv fv lv sv : Value} {va : Option Addr} {vn vc : Nat} {m : Mc} (h : McR w P (.slice va vn vc) vv fv lv sv m) : vn = m.me.pl.length := by
 obtain ⟨qs, h1, h2, _⟩ := h.1.1
 have := h1.lenN
 omega
theorem McR.flen {w : World} {P : Nat → Prop} {pv vv lv sv : Value} {va : Option Addr} {vn vc : Nat} {m : Mc} (h : McR w P pv vv (.slice va vn vc) lv sv m) : vn = m.ln.first.length := h.2.1.1.lenN
section
variable {K : CodeK} {q : Option Nat} {cr : Int} {m : Mc} {ts : List (Tk K.C)} {bs : List Bool}
theorem step_no_at (hv : 0 < m.me.vs.length) (htl : ts.length ≤ 1000) (hbl : bs.length ≤ 1000) (kd ch : Int) (h2 : ¬ kd = 2) (t i : Nat) (hti : t = i + 1) (k : Tk K.C) (hk : ts[i]? = some k) (hno : (bs[i]?.getD false = true ∨ k.d = true) ∨ (¬ kd = 0 ∧ ¬ kd = 1)) : StepNo K q cr kd t ch (m, ts) bs := by
 rintro W P v ⟨pa, va, fa, la, sa, ta, ba, pn, pc, vn, vc, fn, fc, ln, lc, sn, sc, tn, tc, bn, bc, rfl, h⟩
 dsimp only at h
 have := h.1.vlen
 refine wStep_no q cr kd t ch (by omega) h2 (!bs[i]?.getD false && !k.d) ?_ (fun W' he => wtakes_any (P := P) q cr (h.2.1.of he) (h.2.2.of blE_len he) hbl t i hti k hk htl)
 rcases hno with (h | h) | h
 ·exact .inl (by rw [h]; rfl)
 ·exact .inl (by rw [h]; simp)
 ·exact .inr h
theorem step_go_ok (hv : 0 < m.me.vs.length) (htl : ts.length ≤ 1000) (hbl : bs.length ≤ 1000) (ch : Int) (t i : Nat) (hti : t = i + 1) (k : Tk K.C) (hk : ts[i]? = some k) (hs : bs[i]?.getD false = false) (hd : k.d = false) (hkg : k.g.length ≤ 10000) (g : Gt) (hg : K.Gd g) (m' : Mc)
 (hdo : ∀ (W : World) (P : Nat → Prop) (pa va fa la sa : Option Addr) (pn pc vn vc fn fc ln lc sn sc : Nat), (∀ b, P b → b < W.heap.size) → McR W P (.slice pa pn pc) (.slice va vn vc) (.slice fa fn fc) (.slice la ln lc) (.slice sa sn sc) m → DoOk W P #[.slice pa pn pc, .slice va vn vc, .slice fa fn fc, .slice la ln lc, .map q, .slice sa sn sc, .int .i64 cr] q cr fa pn vn fn fc ln sn t k.a ch g m') :
 StepOk K q cr 0 t ch (m, ts) (m', ts.set i (tkNext K k g)) bs bs := by
 rintro W P v hP ⟨pa, va, fa, la, sa, ta, ba, pn, pc, vn, vc, fn, fc, ln, lc, sn, sc, tn, tc, bn, bc, rfl, h⟩
 dsimp only at h
 have h1 := h.1.vlen
 refine wStep_go hP q cr t ch (by omega) (fun W' he => ?_) (fun W' he => ?_)
 ·have := wtakes_any (pa := pa) (va := va) (fa := fa) (la := la) (sa := sa) (pn := pn) (pc := pc) (vn := vn) (vc := vc) (fn := fn) (fc := fc) (ln := ln) (lc := lc) (sn := sn) (sc := sc) (P := P) q cr (h.2.1.of he) (h.2.2.of blE_len he) hbl t i hti k hk htl
  rw [hs, hd] at this
  exact this
 ·have hP' : ∀ b, P b → b < W'.heap.size := fun b hb => Nat.lt_of_lt_of_le (hP b hb) he.size
  refine (wstep_any hP' q cr (h.of he) htl t i hti k hk hd hkg ch g hg m' (hdo W' P pa va fa la sa pn pc vn vc fn fc ln lc sn sc hP' (h.1.of he))).mono ?_
  rintro e w' ⟨pa', pc', va', vc', la', lc', sa', sc', ta', tc', rfl, he', h'⟩
  exact ⟨_, rfl, he', _, _, _, _, _, _, _, _, _, _, _, _, _, _, _, _, _, _, _, _, _, rfl, h'⟩
end
open Go.RowKit
def chooseN (n fr : Nat) (ch : Int) : Nat := (n - 1) - (if ch < 0 then 0 else ch.toNat) % ((n - 1) - (if fr < n - 1 then fr else n - 1) + 1)
theorem chooseN_last (n fr : Nat) (h : n - 1 ≤ fr) (ch : Int) : chooseN n fr ch = n - 1 := by
 unfold chooseN
 rw [if_neg (c := fr < n - 1) (by omega), Nat.sub_self, Nat.zero_add, Nat.mod_one, Nat.sub_zero]
theorem tmod_nat (a b : Nat) : Int.tmod (a : Int) (b : Int) = ((a % b : Nat) : Int) := by
 rw [Int.tmod_eq_emod_of_nonneg (by omega)]; rfl
theorem wr_small {x : Int} {y : Nat} (h : x = (y : Int)) (hy : y ≤ 100000000) : wrap64 x = (y : Int) := by
 rw [h]; exact IntWalk.wrap64_in _ (by omega)
theorem choose_nums {n fr : Nat} (ch : Int) (hn : 1 ≤ n) (hn2 : n ≤ 10000000) : ∃ q m d0 d k r z : Nat, chooseN n fr ch = z ∧ wrap64 ((n : Int) - 1) = (q : Int) ∧ wrap64 ((q : Int) - (m : Int)) = (d0 : Int) ∧ wrap64 ((d0 : Int) + 1) = (d : Int) ∧ Int.tmod (k : Int) (d : Int) = (r : Int) ∧ wrap64 (r : Int) = (r : Int) ∧ wrap64 ((q : Int) - (r : Int)) = (z : Int) ∧ ¬ (d : Int) = 0 ∧
 ((ch < 0 ∧ k = 0) ∨ (¬ ch < 0 ∧ ch = (k : Int))) ∧ (((fr : Int) < (q : Int) ∧ fr = m) ∨ (¬ (fr : Int) < (q : Int) ∧ q = m)) := by
 obtain ⟨q, hq⟩ : ∃ q, q = n - 1 := ⟨_, rfl⟩
 obtain ⟨m, hm⟩ : ∃ m, m = (if fr < q then fr else q) := ⟨_, rfl⟩
 obtain ⟨k, hk⟩ : ∃ k : Nat, k = (if ch < 0 then 0 else ch.toNat) := ⟨_, rfl⟩
 have hmq : m ≤ q := by rw [hm]; split <;> omega
 have hqb : q ≤ 10000000 := by omega
 have hkc : (ch < 0 ∧ k = 0) ∨ (¬ ch < 0 ∧ ch = (k : Int)) := by
  by_cases h : ch < 0
  ·exact .inl ⟨h, by rw [hk, if_pos h]⟩
  ·exact .inr ⟨h, by rw [hk, if_neg h]; omega⟩
 have hfm : ((fr : Int) < (q : Int) ∧ fr = m) ∨ (¬ (fr : Int) < (q : Int) ∧ q = m) := by
  by_cases h : fr < q
  ·exact .inl ⟨by omega, by rw [hm, if_pos h]⟩
  ·exact .inr ⟨by omega, by rw [hm, if_neg h]⟩
 have hcz : chooseN n fr ch = q - k % (q - m + 1) := by unfold chooseN; rw [hk, hm, hq]
 have hnq : (n : Int) - 1 = (q : Int) := by omega
 clear hk hm hq
 obtain ⟨d, hd⟩ : ∃ d, d = q - m + 1 := ⟨_, rfl⟩
 rw [← hd] at hcz
 obtain ⟨r, hr⟩ : ∃ r, r = k % d := ⟨_, rfl⟩
 have hrd : r < d := by rw [hr]; exact Nat.mod_lt _ (by omega)
 rw [← hr] at hcz
 have hmd : Int.tmod (k : Int) (d : Int) = (r : Int) := by rw [tmod_nat, hr]
 clear hr
 exact ⟨q, m, q - m, d, k, r, q - r, hcz, wr_small hnq (by omega), wr_small (by omega) (by omega), wr_small (by omega) (by omega), hmd, wr_small rfl (by omega), wr_small (by omega) (by omega), by omega, hkc, hfm⟩
open Go.RowKit
theorem mx0 (x : Nat) : (if 0 < x then (x : Int) else 0) = (x : Int) := by split <;> omega
set_option maxRecDepth 100000 in
set_option maxHeartbeats 400000 in
theorem hchoose_any (a : Option Addr) (n c fr : Nat) (ch : Int) (hn : 1 ≤ n) (hn2 : n ≤ 10000000) (w : World) :
 Calls Tryz.prog 162 #[.agg #[.slice a n c], .int .i64 fr, .int .i64 ch] w fun e w' => e = .returned (.int .i64 (chooseN n fr ch : Nat)) ∧ ∃ r, w' = ext w r := by
 obtain ⟨q, m, d0, d, k, r, z, hz, hw1, hw2, hw3, hmd, hwr, hw4, hdn, hkc, hfm⟩ := choose_nums (fr := fr) ch hn hn2
 have HZ := hid hz
 have HQn := hid (show (q : Int) = (n : Int) - 1 ∧ q ≤ 10000000 by
  have e : wrap64 ((n : Int) - 1) = (n : Int) - 1 := IntWalk.wrap64_in _ (by omega)
  rw [e] at hw1; omega)
 rw [hz]
 have hq0 : ¬ (q : Int) < 0 := by omega
 have hm0 : ¬ (m : Int) < 0 := by omega
 have hq0d : decide ((q : Int) < 0) = false := decide_eq_false hq0
 clear hz hn hn2
 rcases hkc with ⟨h1, h1k⟩ | ⟨h1, h1k⟩
 ·subst h1k
  have hr0 : (r : Int) = 0 := by rw [← hmd]; simp
  have hzq : wrap64 (q : Int) = (z : Int) := by rw [← hw4, hr0, Int.sub_zero]
  clear hr0
  rcases hfm with ⟨h2, h2m⟩ | ⟨h2, h2m⟩
  ·subst h2m
   have h2n : fr < q := by omega
   have h2d : decide (fr < q) = true := decide_eq_true h2n
   go_enter Tryz.func162, Tryz.ntmps162
   go_upto_region 2 with fail
   simp only [hw1]
   clear hw1
   go_upto_region 5 with fail
   try simp only [mx0]
   go_wp2_with fail
   go_ret
   first | exact ⟨rfl, by exact exP⟩ | exact ⟨(show Ending.returned (Value.int .i64 (wrap64 (q : Int))) = _ by rw [hzq]), by exact exP⟩
  ·subst h2m
   have h2n : ¬ fr < q := by omega
   have h2e : q ≤ fr := by omega
   have h2d : decide (fr < q) = false := decide_eq_false h2n
   have hmn : (if q < fr then (q : Int) else (fr : Int)) = (q : Int) := by split <;> omega
   go_enter Tryz.func162, Tryz.ntmps162
   go_upto_region 2 with fail
   simp only [hw1]
   clear hw1
   go_upto_region 5 with fail
   try simp only [mx0]
   go_wp2_with fail
   go_ret
   first | exact ⟨rfl, by exact exP⟩ | exact ⟨(show Ending.returned (Value.int .i64 (wrap64 (q : Int))) = _ by rw [hzq]), by exact exP⟩
 ·subst h1k
  rcases hfm with ⟨h2, h2m⟩ | ⟨h2, h2m⟩
  ·subst h2m
   have h2n : fr < q := by omega
   have h2d : decide (fr < q) = true := decide_eq_true h2n
   go_enter Tryz.func162, Tryz.ntmps162
   go_upto_region 2 with fail
   simp only [hw1]
   clear hw1
   go_upto_region 5 with fail
   try simp only [mx0]
   go_wp2_with fail
   go_ret
   exact ⟨rfl, by exact exP⟩
  ·subst h2m
   have h2n : ¬ fr < q := by omega
   have h2e : q ≤ fr := by omega
   have h2d : decide (fr < q) = false := decide_eq_false h2n
   have hzq : wrap64 (q : Int) = (z : Int) := by
    have e := chooseN_last n fr (by have := HQn.out; omega) (k : Int)
    rw [HZ.out] at e
    exact wr_small (by have := HQn.out; omega) (by have := HQn.out; omega)
   have hmn : (if q < fr then (q : Int) else (fr : Int)) = (q : Int) := by split <;> omega
   go_enter Tryz.func162, Tryz.ntmps162
   go_upto_region 2 with fail
   simp only [hw1]
   clear hw1
   go_upto_region 5 with fail
   try simp only [mx0]
   go_wp2_with fail
   go_ret
   exact ⟨rfl, by exact exP⟩
set_option maxRecDepth 100000 in
set_option maxHeartbeats 400000 in
theorem psome_any (ch : Int) (a : Option Addr) (n c fr : Nat) (hn : 1 ≤ n) (hn2 : n ≤ 10000000) (w : World) : Calls Tryz.prog 144 #[.int .i64 ch, .agg #[.slice a n c], .int .i64 fr] w fun e w' => e = .returned (.int .i64 (chooseN n fr ch : Nat)) ∧ ∃ r, w' = ext w r := by
 go_enter Tryz.func144, Tryz.ntmps144
 go_wp2_with (go_call (hchoose_any a n c fr ch hn hn2 _) as e w' ⟨rfl, r1, rfl⟩)
 go_ret
 exact ⟨rfl, by exact exP⟩
end Go.Proofs.YtiacdohaiidehaaGreatDoor
