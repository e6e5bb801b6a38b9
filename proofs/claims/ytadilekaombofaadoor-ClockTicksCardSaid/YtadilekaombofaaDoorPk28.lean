/- The machine: New, Word; the world of tasks: stop. -/
import Derived.Test.YtadilekaombofaaDoorPk27
namespace Go.Proofs.YtadilekaombofaaDoor
set_option linter.unusedSimpArgs false
set_option linter.unusedVariables false
open Go.RowKit Go.Maps
theorem mk_ints (n : Nat) (hn : n ≤ 100000) (w : World) : (Instr.makeSlice 36 (.int .i64 n) (.int .i64 n)).run Tryd.prog w =
 .ok (.slice (some ⟨w.heap.size, 0, none⟩) n n) (w.alloc (.cells (madeCells #[.int .i64 0] (n * 1)) 3)) := by
 obtain ⟨i0, hi, hz0, hz1, hz2⟩ := info_parts Tryd.info_it
 have := run_make (P := Tryd.prog) w 36 3 i0 _ Tryd.underlying36 hi hz0 .i64 .i64 n n (by omega) (by omega) (by rw [hz2]; omega) (by omega)
 have hcs : (Value.int .i64 0).cells = #[.int .i64 0] := by simp [Value.cells]
 rw [hz1, hcs] at this
 simpa using this
set_option maxRecDepth 100000 in
set_option maxHeartbeats 1000000 in
theorem mcword_any {w : World} {P : Nat → Prop} {pa va fa la sa : Option Addr} {pn pc vn vc fn fc ln lc sn sc : Nat} (q : Option Nat) (cr : Int) {m : Mc} (h : McR w P (.slice pa pn pc) (.slice va vn vc) (.slice fa fn fc) (.slice la ln lc) (.slice sa sn sc) m) (i : Nat) (l : List Mg) (hl : m.me.pl[i]? = some l) (hpn : pn ≤ 4096) (x1 x2 x3 t : Int) (f : Int → Nat) (hm : l[l.length - 1]? = some ⟨(x1, x2, x3), t, f⟩) (hlen : l.length ≤ 1000000) :
 Calls Tryd.prog 6 #[.agg #[.slice pa pn pc, .slice va vn vc, .slice fa fn fc, .slice la ln lc, .map q, .slice sa sn sc, .int .i64 cr], .int .i64 i] w fun e w' => e = .returned (.tuple #[.agg #[.int .i64 x1, .int .u32 x2, .int .u32 x3], .bool true]) ∧ Ext w w' := by
 have HC := hid (fun (W : World) (he : Ext w W) => mlast_any va vn vc ((h.of he).1.1) i l hl (by omega) x1 x2 x3 t f hm hlen)
 clear h hl hpn hm hlen
 go_enter Tryd.func6, Tryd.ntmps6
 go_wp2_with fail
 refine (HC.out _ (by (show Ext _ _; repeat first | (with_reducible first | (refine xH ?_; assumption) | exact xR _ | refine xX ?_ _ | refine xA ?_ _) | refine xD ?_ | refine xN ?_ _ | exact xR _))).mono ?_
 rintro e w1 ⟨rfl, r1, rfl⟩
 (repeat (first | go_values | go_skip | go_guarded | go_step | go_upon | (simp only [Int.not_lt, Int.not_le] at *; go_simp) | (go_ite <;> go_prune <;> (try go_simp))))
 exact bodyPost_ret (v := .tuple #[.agg #[.int .i64 x1, .int .u32 x2, .int .u32 x3], .bool true]) (by simp [results, Tryd.results6, go_sem]) rfl ⟨rfl, by (show Ext _ _; repeat with_reducible first | (refine xH ?_; assumption) | exact xR _ | refine xX ?_ _ | refine xA ?_ _ | refine xD ?_ | refine xS ?_ (by (try dsimp only); first | omega | (simp; done) | (simp; omega)) _)⟩
set_option maxRecDepth 100000 in
set_option maxHeartbeats 1000000 in
theorem mcnew_any {w : World} {a : Option Addr} {k c : Nat} {ws : List Wd} (hw : Sl w 3 wdE (.slice a k c) ws) (hk1 : 1 ≤ k) (hk2 : k ≤ 4096) (n : Nat) (hn1 : 1 ≤ n) (hn2 : n ≤ 8) (nl : Nat) (hnl : nl = (k + 7) / 8) :
 Calls Tryd.prog 15 #[.int .i64 n, .slice a k c] w fun e w' => ∃ pa pc va vc fa fc la sa, e = .returned (.tuple #[.agg #[.slice pa k pc, .slice va n vc, .slice fa k fc, .slice la nl nl, .map none, .slice sa n n, .int .i64 0], .int .i64 0]) ∧ Ext w w' ∧ McR w' (fun b => w.heap.size ≤ b) (.slice pa k pc) (.slice va n vc) (.slice fa k fc) (.slice la nl nl) (.slice sa n n) ⟨⟨ws.map (fun x => [⟨x, 0, fun _ => 0⟩]), List.replicate n (fun _ => 0)⟩, ⟨ws, List.replicate nl ([], 0)⟩, List.replicate n 0⟩ := by
 have HM := hid (fun (W : World) (he : Ext w W) => mNew_any (w := W) (hw.of wdE_len he) hk1 hk2 n hn1 hn2)
 have HL := hid (fun (W : World) (he : Ext w W) => lnew_any (w := W) (hw.of wdE_len he) hk2 nl hnl)
 have hmk := mk_ints n (by omega)
 have HNn := hid (show n ≤ 8 from hn2)
 clear hw hk1 hk2 hn1 hn2 hnl
 go_enter Tryd.func15, Tryd.ntmps15
 go_wp2_with fail
 generalize hV_ : World.alloc _ _ = V
 have HE_V := hid (show Ext w V by rw [← hV_]; (show Ext _ _; repeat first | (with_reducible first | (refine xH ?_; assumption) | exact xR _ | refine xX ?_ _ | refine xA ?_ _) | refine xD ?_ | refine xN ?_ _ | exact xR _))
 have HB_b4 := hid (show Blk V (w.heap.size) [.slice none 0 0, .slice none 0 0, .slice none 0 0, .slice none 0 0, .map none, .slice none 0 0, .int .i64 0] by rw [← hV_]; (show Blk _ _ _; repeat first | (with_reducible first | (refine xH ?_; assumption) | refine bD ?_ | refine bX ?_ _) | (with_reducible refine bN _ _ rfl ?_; first | with_reducible rfl | (simp; done)) | (with_reducible first | refine bA ?_ _ | assumption | apply bS) | (with_reducible refine bO ?_ ?_; first | omega | (simp; omega)) | (show List.set _ _ _ = _; exact rfl) | (show _ < List.length _; simp; done)))
 clear hV_
 obtain ⟨b4, hg_b4⟩ : ∃ g, g = w.heap.size := ⟨_, rfl⟩
 simp only [← hg_b4] at HB_b4 ⊢
 have HN_V := hid (show b4 = w.heap.size ∧ b4 < V.heap.size from ⟨hg_b4, HB_b4.out.1⟩)
 clear hg_b4
 refine (HM.out V HE_V.out).mono ?_
 rintro e w1 ⟨pa, pc, va, vc, rfl, he, hm⟩
 have HE_1 := hid (HE_V.out.trans he)
 have HMe := hid hm
 have HVs := hid (show Ext V w1 from he)
 clear he hm
 go_wp2_with fail
 generalize hV_ : World.alloc _ _ = U
 have HE_U := hid (show Ext w1 U by rw [← hV_]; (show Ext _ _; repeat first | (with_reducible first | (refine xH ?_; assumption) | exact xR _ | refine xX ?_ _ | refine xA ?_ _) | refine xD ?_ | refine xN ?_ _ | exact xR _))
 have HB_b6 := hid (show Blk U (w1.heap.size) [.slice pa k pc, .slice va n vc] by rw [← hV_]; (show Blk _ _ _; repeat first | (with_reducible first | (refine xH ?_; assumption) | refine bD ?_ | refine bX ?_ _) | (with_reducible refine bN _ _ rfl ?_; first | with_reducible rfl | (simp; done)) | (with_reducible first | refine bA ?_ _ | assumption | apply bS) | (with_reducible refine bO ?_ ?_; first | omega | (simp; omega)) | (show List.set _ _ _ = _; exact rfl) | (show _ < List.length _; simp; done)))
 clear hV_
 obtain ⟨b6, hg_b6⟩ : ∃ g, g = w1.heap.size := ⟨_, rfl⟩
 simp only [← hg_b6] at HB_b6 ⊢
 have HN_U := hid (show b6 = w1.heap.size ∧ b6 < U.heap.size from ⟨hg_b6, HB_b6.out.1⟩)
 clear hg_b6
 refine (HL.out U (HE_1.out.trans HE_U.out)).mono ?_
 rintro e w2 ⟨fa, fc, la, rfl, he, hm⟩
 have HE_2 := hid ((HE_1.out.trans HE_U.out).trans he)
 have HLn := hid hm
 have HUs := hid (show Ext U w2 from he)
 clear he hm
 go_upto_region 7 with fail
 generalize hV_ : World.alloc _ _ = X
 have HE_X := hid (show Ext w2 X by rw [← hV_]; (show Ext _ _; repeat first | (with_reducible first | (refine xH ?_; assumption) | exact xR _ | refine xX ?_ _ | refine xA ?_ _) | refine xD ?_ | refine xN ?_ _ | exact xR _))
 have HB_b8 := hid (show Blk X (w2.heap.size) [.slice fa k fc, .slice la nl nl, .map none] by rw [← hV_]; (show Blk _ _ _; repeat first | (with_reducible first | (refine xH ?_; assumption) | refine bD ?_ | refine bX ?_ _) | (with_reducible refine bN _ _ rfl ?_; first | with_reducible rfl | (simp; done)) | (with_reducible first | refine bA ?_ _ | assumption | apply bS) | (with_reducible refine bO ?_ ?_; first | omega | (simp; omega)) | (show List.set _ _ _ = _; exact rfl) | (show _ < List.length _; simp; done)))
 clear hV_
 obtain ⟨b8, hg_b8⟩ : ∃ g, g = w2.heap.size := ⟨_, rfl⟩
 simp only [← hg_b8] at HB_b8 ⊢
 have HN_X := hid (show b8 = w2.heap.size ∧ b8 < X.heap.size from ⟨hg_b8, HB_b8.out.1⟩)
 clear hg_b8
 have HB4 := hid (HB_b4.out.of (((HVs.out.trans HE_U.out).trans HUs.out).trans HE_X.out))
 have HB6 := hid (HB_b6.out.of (HUs.out.trans HE_X.out))
 have HNx := hid (show w.heap.size ≤ b4 ∧ b4 < V.heap.size from ⟨by have := HN_V.out; omega, by have := HN_V.out; omega⟩)
 have a0 := (HB6.out).2.2 0 _ rfl
 have a1 := (HB6.out).2.2 1 _ rfl
 have af := (HB6.out).2.1
 have ag := (HB6.out).1
 have c0 := (HB_b8.out).2.2 0 _ rfl
 have c1 := (HB_b8.out).2.2 1 _ rfl
 have c2 := (HB_b8.out).2.2 2 _ rfl
 have cf := (HB_b8.out).2.1
 have cg := (HB_b8.out).1
 have HL_ := hid (fun w' (h : Ext X w') => (And.intro (Nat.lt_of_lt_of_le ag h.size) (And.intro (Nat.lt_of_lt_of_le cg h.size) (And.intro (h.cell a0) (And.intro (h.cell a1) (And.intro (h.cell c0) (And.intro (h.cell c1) (h.cell c2))))))))
 refine wp_region_facts [28, 29, 30, 31, 32] [0, 1, 2, 3, 4] rfl (fun w' => Ext X w') (fsAt [IsV ?_, IsV ?_, IsV ?_, (fun v w' => ∃ b, v = .slice (some ⟨b, 0, none⟩) n n ∧ w'.heap[b]? = some (.cells (madeCells #[.int .i64 0] (n * 1)) 3 (0, 0)) ∧ X.heap.size ≤ b), (fun v w' => ∃ b, v = .agg #[.slice pa k pc, .slice va n vc, .slice fa k fc, .slice la nl nl, .map none, .slice (some ⟨b, 0, none⟩) n n, .int .i64 0] ∧ w'.heap[b]? = some (.cells (madeCells #[.int .i64 0] (n * 1)) 3 (0, 0)) ∧ X.heap.size ≤ b)]) (by kernel_rfl) (by kernel_rfl) ((Ext.refl _).drew) (fun w w' h he => h.trans he) (AllOn.cons (fun _ _ _ h _ => h) (AllOn.cons (fun _ _ _ h _ => h) (AllOn.cons (fun _ _ _ h _ => h) (AllOn.cons (fun _ _ _ h he => by obtain ⟨q, h1, h2, h3⟩ := h; exact ⟨q, h1, heap_of_ext he h2, h3⟩) (AllOn.cons (fun _ _ _ h he => by obtain ⟨q, h1, h2, h3⟩ := h; exact ⟨q, h1, heap_of_ext he h2, h3⟩) (AllOn.nil)))))) (AllOn.cons ?_ (AllOn.cons ?_ (AllOn.cons ?_ (AllOn.cons ?_ (AllOn.cons ?_ (AllOn.nil)))))) ?_
 rotate_left 3
 ·intro A w cx hO hD
  have e6 := evO hO 6 rfl
  clear hD hO
  refine head_val (o := ⟨_, _, _, _, _, _⟩) rfl ?_ rfl rfl ?_ ?_
  rotate_left 1
  ·simp [go_sem, e6, cx, HL_.out w cx]
   try with_reducible rfl
  ·exact IsV.mk (w := w)
 ·intro A w cx hO hD
  have e8 := evO hO 8 rfl
  clear hD hO
  refine head_val (o := ⟨_, _, _, _, _, _⟩) rfl ?_ rfl rfl ?_ ?_
  rotate_left 1
  ·simp [go_sem, e8, cx, HL_.out w cx]
   try with_reducible rfl
  ·exact IsV.mk (w := w)
 ·intro A w cx hO hD
  have e0 := evO hO 0 rfl
  clear hD hO
  refine head_val (o := ⟨_, _, _, _, _, _⟩) rfl ?_ rfl rfl ?_ ?_
  rotate_left 1
  ·simp [go_sem, e0, cx, HL_.out w cx]
   try with_reducible rfl
  ·exact IsV.mk (w := w)
 ·intro A w cx hO hD
  have e30 := evD (hD 2 (by kernel_rfl) 30 rfl)
  clear hD hO
  refine head_wp (o := ⟨_, _, _, _, _, _⟩) rfl rfl ?_
  simp [go_sem, e30, hmk]
  exact ⟨_, rfl, Ext.of_alloc _ _, _, rfl, heap_new rfl, cx.size⟩
 ·intro A w cx hO hD
  have e28 := evD (hD 0 (by kernel_rfl) 28 rfl)
  have e29 := evD (hD 1 (by kernel_rfl) 29 rfl)
  have e31 := hD 3 (by kernel_rfl) 31 rfl
  rw [ev_tm] at e31
  clear hD hO
  refine head_wp (o := ⟨_, _, _, _, _, _⟩) rfl rfl ?_
  obtain ⟨b, e31, h1, h2⟩ := e31
  simp [go_sem, e28, e29, e31]
  exact ⟨_, rfl, Ext.refl _, b, rfl, by simpa using h1, h2⟩
 intro u wx hC hF
 obtain ⟨f0, f1, f2, f3, f4, _⟩ := hF
 have g0 : u 0 = _ := f0
 have g1 : u 1 = _ := f1
 have g2 : u 2 = _ := f2
 obtain ⟨v3, g3⟩ : ∃ v, u 3 = v := ⟨_, rfl⟩
 rw [g3] at f3
 obtain ⟨v4, g4⟩ : ∃ v, u 4 = v := ⟨_, rfl⟩
 rw [g4] at f4
 simp only [fPut, Nat.zero_add, Nat.reduceAdd, g0, g1, g2, g3, g4, Act.put, List.setIfInBounds_toArray, List.set_cons_zero, List.set_cons_succ, List.length_cons, List.length_nil, List.drop_succ_cons, List.drop_zero]
 clear g0 g1 g2 g3 g4 f0 f1 f2
 clear f3
 obtain ⟨bs, rfl, hb1, hb2⟩ := f4
 have HC := hid hC
 have h4 := HB4.out.of hC
 clear hC a0 a1 af ag c0 c1 c2 cf cg
 have d0 := h4.2.2 0 _ rfl
 have d1 := h4.2.2 1 _ rfl
 have d2 := h4.2.2 2 _ rfl
 have d3 := h4.2.2 3 _ rfl
 have d4 := h4.2.2 4 _ rfl
 have d5 := h4.2.2 5 _ rfl
 have d6 := h4.2.2 6 _ rfl
 have df := h4.2.1
 have dg := h4.1
 clear h4
 (repeat (first | go_values | go_skip | go_guarded | go_step | go_upon | (simp only [Int.not_lt, Int.not_le] at *; go_simp) | (go_ite <;> go_prune <;> (try go_simp))))
 refine bodyPost_ret (v := .tuple #[.agg #[.slice pa k pc, .slice va n vc, .slice fa k fc, .slice la nl nl, .map none, .slice (some ⟨bs, 0, none⟩) n n, .int .i64 0], .int .i64 0]) (by simp [results, Tryd.results15, go_sem, d0, d1, d2, d3, d4, d5, d6, df, dg]) rfl ⟨pa, pc, va, vc, fa, fc, la, _, rfl, ?_⟩
 generalize hZ_ : World.setCell _ _ _ = Z
 have hgz : GrL [b4] wx Z := by rw [← hZ_]; (show GrL _ _ _; repeat (first | with_reducible exact GrL.refl | ((with_reducible refine GrL.set ?_ ?_ _); rotate_left 1; focus (simp; done)) | ((with_reducible refine GrL.ext ?_ _)) | ((with_reducible refine GrL.alloc ?_ _)) | ((with_reducible refine GrL.drew ?_))))
 clear hZ_
 have hnx := HNx.out
 have hsv := HVs.out.size
 have hsu := HUs.out.size
 have hse := HE_U.out.size
 have hsx := HE_X.out.size
 have hwv := HE_V.out.size
 have hk : ∀ (W : World), V.heap.size ≤ W.heap.size → KpB (fun b => W.heap.size ≤ b) wx Z := fun W hW => hgz.kp (fun g hg h => by simp only [List.mem_cons, List.not_mem_nil, or_false] at hg; subst hg; have h2 : W.heap.size ≤ g := h; omega)
 refine ⟨((HE_2.out.trans HE_X.out).trans HC.out).grl hgz (by simp; omega), ?_, ?_, ?_⟩
 ·exact ((((HMe.out.imp (P' := fun b => V.heap.size ≤ b) (fun b hb => hb.1)).of ((HE_U.out.trans HUs.out).trans (HE_X.out.trans HC.out))).kp (hk V (Nat.le_refl _)))).imp (fun b hb => Nat.le_trans hwv hb)
 ·exact ((((HLn.out.imp (P' := fun b => U.heap.size ≤ b) (fun b hb => hb.1)).of (HE_X.out.trans HC.out)).kp (hk U (by omega)))).imp (fun b hb => by have hb : U.heap.size ≤ b := hb; show w.heap.size ≤ b; omega)
 ·have hbo : Z.heap[bs]? = some (.cells (madeCells #[.int .i64 0] (n * 1)) 3 (0, 0)) := by rw [hgz.block (Array.getElem?_eq_some_iff.1 hb1).1 (by simp; omega)]; exact hb1
  exact Sp.own itE_len (own_of_heap (n := n) (base := X.heap.size) hbo hb2 (made1_get (x := (0 : Int)) rfl n) (by rw [flat_len itE_len]; simp) (by simp) (by have := HNn.out; unfold maxLen; omega)) (fun b hb => by show w.heap.size ≤ b; omega)
set_option maxRecDepth 100000 in
set_option maxHeartbeats 1000000 in
theorem wstop_any {K : CodeK} {w : World} {P : Nat → Prop} (hP : ∀ b, P b → b < w.heap.size) {pa va fa la sa ta ba : Option Addr} {pn pc vn vc fn fc ln lc sn sc tn tc bc : Nat} (q : Option Nat) (cr : Int) {m : Mc} {ts : List (Tk K.C)} {bs : List Bool} (h : WR K w P (.slice pa pn pc) (.slice va vn vc) (.slice fa fn fc) (.slice la ln lc) (.slice sa sn sc) (.slice ta tn tc) (.slice ba tn bc) m ts bs) (h1000 : ts.length ≤ 1000) (t i : Nat) (hti : t = i + 1) (hi : i < ts.length) :
 Calls Tryd.prog 24 #[.agg #[.slice pa pn pc, .slice va vn vc, .slice fa fn fc, .slice la ln lc, .map q, .slice sa sn sc, .int .i64 cr, .slice ta tn tc, .slice ba tn bc], .int .i64 t] w fun e w' => ∃ v', e = .returned v' ∧ Ext w w' ∧ WV K w' (fun b => P b ∨ w.heap.size ≤ b) q cr v' m ts (bs.set i true) := by
 have htn := h.2.1.len
 have hbn := h.2.2.lenN
 have H := hid h
 have HP := hid hP
 have HL := hid (And.intro htn (And.intro hbn (And.intro h1000 hi)))
 have hmk := mk_bools tn (by omega)
 have hw1 : wrap64 ((t : Int) - 1) = (i : Int) := by rw [show (t : Int) - 1 = (i : Int) by omega]; exact IntWalk.wrap64_in _ (by omega)
 have hil : (i : Int) < (tn : Int) := by omega
 clear h hP htn hbn h1000 hti hi
 go_enter Tryd.func24, Tryd.ntmps24
 go_upto_region 2 with fail
 generalize hV_ : World.alloc _ _ = V
 have HE_V := hid (show Ext w V by rw [← hV_]; (show Ext _ _; repeat first | (with_reducible first | (refine xH ?_; assumption) | exact xR _ | refine xX ?_ _ | refine xA ?_ _) | refine xD ?_ | refine xN ?_ _ | exact xR _))
 have HB_b2 := hid (show Blk V w.heap.size [.slice pa pn pc, .slice va vn vc, .slice fa fn fc, .slice la ln lc, .map q, .slice sa sn sc, .int .i64 cr, .slice ta tn tc, .slice ba tn bc] by rw [← hV_]; (show Blk _ _ _; repeat first | (with_reducible first | (refine xH ?_; assumption) | refine bD ?_ | refine bX ?_ _) | (with_reducible refine bN _ _ rfl ?_; first | with_reducible rfl | (simp; done)) | (with_reducible first | refine bA ?_ _ | assumption | apply bS) | (with_reducible refine bO ?_ ?_; first | omega | (simp; omega)) | (show List.set _ _ _ = _; exact rfl) | (show _ < List.length _; simp; done)))
 have HB_b4 := hid (show Blk V (w.heap.size + 1) [.slice none 0 0, .slice none 0 0, .slice none 0 0, .slice none 0 0, .map none, .slice none 0 0, .int .i64 0, .slice none 0 0, .slice none 0 0] by rw [← hV_]; (show Blk _ _ _; repeat first | (with_reducible first | (refine xH ?_; assumption) | refine bD ?_ | refine bX ?_ _) | (with_reducible refine bN _ _ rfl ?_; first | with_reducible rfl | (simp; done)) | (with_reducible first | refine bA ?_ _ | assumption | apply bS) | (with_reducible refine bO ?_ ?_; first | omega | (simp; omega)) | (show List.set _ _ _ = _; exact rfl) | (show _ < List.length _; simp; done)))
 have HG := hid (show V.heap[w.heap.size + 1 + 1]? = some (.cells (madeCells #[.bool false] (tn * 1)) 4 (0, 0)) by rw [← hV_, Nat.mul_one]; exact heap_new (by simp))
 clear hV_
 obtain ⟨bb, hbb⟩ : ∃ g, g = w.heap.size + 1 + 1 := ⟨_, rfl⟩
 simp only [← hbb] at HG ⊢
 obtain ⟨b4, hb4⟩ : ∃ g, g = w.heap.size + 1 := ⟨_, rfl⟩
 simp only [← hb4] at HB_b4 ⊢
 obtain ⟨b2, hb2⟩ : ∃ g, g = w.heap.size := ⟨_, rfl⟩
 simp only [← hb2] at HB_b2 ⊢
 have HN := hid (show w.heap.size ≤ b2 ∧ b2 < b4 ∧ b4 < bb ∧ bb < V.heap.size from ⟨by omega, by omega, by omega, (Array.getElem?_eq_some_iff.1 HG.out).1⟩)
 clear hbb hb4 hb2 hmk
 have a0 := (HB_b2.out).2.2 0 _ rfl
 have a1 := (HB_b2.out).2.2 1 _ rfl
 have a2 := (HB_b2.out).2.2 2 _ rfl
 have a3 := (HB_b2.out).2.2 3 _ rfl
 have a4 := (HB_b2.out).2.2 4 _ rfl
 have a5 := (HB_b2.out).2.2 5 _ rfl
 have a6 := (HB_b2.out).2.2 6 _ rfl
 have a7 := (HB_b2.out).2.2 7 _ rfl
 have a8 := (HB_b2.out).2.2 8 _ rfl
 have af := (HB_b2.out).2.1
 have ag := (HB_b2.out).1
 go_wp2_with fail
 obtain ⟨w1, hrun, hg1, hb1, hty⟩ := copy_one (P := Tryd.prog) blE_len blE_one 25 25 3 _ Tryd.underlying25 (by kernel_rfl) bb tn (m := tn) (H.out.2.2.1.of blE_len HE_V.out) (by have := HL.out; omega) _ _ HG.out (by simp [madeCells])
 rw [hrun]
 simp only [Result.andThen]
 rw [Oper.upon_value]
 have HG1 := hid hg1
 have HBm := hid hb1
 have hto : ∃ o', w1.heap[bb]? = some o' ∧ dataObj [4] o' := (hty [4]).2 _ _ HG.out (show _ ∈ [4] from List.mem_cons_self ..)
 have HTo := hid hto
 clear hg1 hb1 hrun hty hto a0 a1 a2 a3 a4 a5 a6 a7 a8 af ag
 have h2 := HB_b2.out.grn HG1.out (by have := HN.out; omega)
 have h4 := HB_b4.out.grn HG1.out (by have := HN.out; omega)
 have HB2 := hid h2
 have HB4 := hid h4
 clear h2 h4 HB_b2 HB_b4
 obtain ⟨bi, hbi⟩ : ∃ x, bs[i]? = some x := ⟨bs[i]'(by have := HL.out; omega), List.getElem?_eq_getElem _⟩
 have m0 := HBm.out.2.2 i (.bool bi) (by have := flat_at blE_len bs i bi hbi 0 (by omega); simpa [blE] using this)
 have mf := HBm.out.2.1
 have mg := HBm.out.1
 have HBi := hid hbi
 clear hbi
 have a0 := (HB2.out).2.2 0 _ rfl
 have a1 := (HB2.out).2.2 1 _ rfl
 have a2 := (HB2.out).2.2 2 _ rfl
 have a3 := (HB2.out).2.2 3 _ rfl
 have a4 := (HB2.out).2.2 4 _ rfl
 have a5 := (HB2.out).2.2 5 _ rfl
 have a6 := (HB2.out).2.2 6 _ rfl
 have a7 := (HB2.out).2.2 7 _ rfl
 have a8 := (HB2.out).2.2 8 _ rfl
 have af := (HB2.out).2.1
 have ag := (HB2.out).1
 have c0 := (HB4.out).2.2 0 _ rfl
 have c1 := (HB4.out).2.2 1 _ rfl
 have c2 := (HB4.out).2.2 2 _ rfl
 have c3 := (HB4.out).2.2 3 _ rfl
 have c4 := (HB4.out).2.2 4 _ rfl
 have c5 := (HB4.out).2.2 5 _ rfl
 have c6 := (HB4.out).2.2 6 _ rfl
 have c7 := (HB4.out).2.2 7 _ rfl
 have c8 := (HB4.out).2.2 8 _ rfl
 have cf := (HB4.out).2.1
 have cg := (HB4.out).1
 have d_b2_b4 : ¬ b2 = b4 := by have hn_ := HN.out; omega
 have d_b2_bb : ¬ b2 = bb := by have hn_ := HN.out; omega
 have d_b4_b2 : ¬ b4 = b2 := by have hn_ := HN.out; omega
 have d_b4_bb : ¬ b4 = bb := by have hn_ := HN.out; omega
 have d_bb_b2 : ¬ bb = b2 := by have hn_ := HN.out; omega
 have d_bb_b4 : ¬ bb = b4 := by have hn_ := HN.out; omega
 (repeat (first | go_values | go_skip | go_guarded | go_step | go_upon | (simp only [Int.not_lt, Int.not_le] at *; go_simp) | (go_ite <;> go_prune <;> (try go_simp))))
 refine bodyPost_ret (v := .agg #[.slice pa pn pc, .slice va vn vc, .slice fa fn fc, .slice la ln lc, .map q, .slice sa sn sc, .int .i64 cr, .slice ta tn tc, .slice (some ⟨bb, 0, none⟩) tn tn]) (by simp [results, Tryd.results24, go_sem, c0, c1, c2, c3, c4, c5, c6, c7, c8, cf, cg]) rfl ⟨_, rfl, ?_⟩
 generalize hZ_ : World.setCell _ _ _ = Z
 have hgz : GrL [bb, b2, b4] w1 Z := by rw [← hZ_]; (show GrL _ _ _; repeat (first | with_reducible exact GrL.refl | ((with_reducible refine GrL.set ?_ ?_ _); rotate_left 1; focus (simp; done)) | ((with_reducible refine GrL.ext ?_ _)) | ((with_reducible refine GrL.alloc ?_ _)) | ((with_reducible refine GrL.drew ?_))))
 have hbz : Blk Z bb ((bs.set i true).flatMap blE) := by
  rw [← hZ_]
  have hb := HBm.out.set i (by rw [flat_len blE_len]; have := HL.out; omega) (.bool true)
  have hfs := flat_set blE_len bs i bi true HBi.out 0 (by omega) (.bool true) rfl
  rw [Nat.mul_one, Nat.add_zero] at hfs
  rw [hfs] at hb
  have hn := HN.out
  clear HG HB2 HB4 HE_V
  repeat (first | (with_reducible exact hb) | ((with_reducible refine Blk.other' ?_ ?_); · omega))
 clear hZ_
 have heZ : Ext w Z := (HE_V.out.grn HG1.out (by have := HN.out; omega)).grl hgz (by have := HN.out; simp; omega)
 have hln := HL.out
 refine ⟨heZ, _, _, _, _, _, _, _, _, _, _, _, _, _, _, _, _, _, _, _, _, _, rfl, (H.out.1.of heZ).imp (fun b hb => .inl hb), (H.out.2.1.of heZ).imp (fun b hb => .inl hb), ?_, fun _ a n c he => by simp only [Value.slice.injEq, Option.some.injEq] at he; rw [← he.1]; exact .inr (by have := HN.out; show w.heap.size ≤ bb; omega)⟩
 have hsl := sl_blk (c := tn) blE_len hbz (by rw [List.length_set]; omega) (by rw [List.length_set]; omega)
 rw [List.length_set, ← hln.2.1] at hsl
 exact hsl
end Go.Proofs.YtadilekaombofaaDoor
