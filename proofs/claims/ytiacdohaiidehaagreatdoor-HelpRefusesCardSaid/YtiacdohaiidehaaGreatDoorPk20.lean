/- The world of tasks: Make, over any code. -/
import Derived.Test.YtiacdohaiidehaaGreatDoorPk19
namespace Go.Proofs.YtiacdohaiidehaaGreatDoor
set_option linter.unusedSimpArgs false
set_option linter.unusedVariables false
open Go.RowKit Go.Maps
theorem tk_append_gb {T : TypeId} {ops : Array Oper} {rest : List Oper} {o : Oper} {a : Act} {Q : Exit → Act → World → Prop} {w : World} {base : Nat} {v : Value} {l : List RTk} (hgd : o.guard = none)
 (s x : Operand) (ho : o.op = .call { callee := .builtin .append, args := #[s, x], argTypes := #[90, 90] })
 (hbw : base ≤ w.heap.size) (hs : a.eval s = v) (hown : Own w base 53 11 (tkE T) v l)
 (ad : Addr) (m c : Nat) (hx : a.eval x = .slice (some ad) m c) (news : List RTk) (hm : news.length = m)
 (hnews : ∀ (j : Nat) (u : Value), (news.flatMap (tkE T))[j]? = some u → w.cell? (ad.add j) = some u)
 (hlen : l.length + m ≤ 1000000)
 (h : ∀ v' w', Own w' base 53 11 (tkE T) v' (l ++ news) → w.grownBy w' v.ownBlock → (v'.ownBlock = v.ownBlock ∨ v'.ownBlock = some w.heap.size) → wpList Tryz.prog ops Q rest (a.put o.dst v') w') : wpList Tryz.prog ops Q (o :: rest) a w := by
 obtain ⟨i0, hi, hz0, hz1, hz2⟩ := info_parts Tryz.info_tk
 have hl : (news.flatMap (tkE T)).length = m * 11 := by rw [← hm]; exact flat_len (tkE_len T) news
 refine wpList_append_own_at w hgd s x 90 ho base 53 i0 _ 11 _ Tryz.underlying90 hi hz0 hz1 hz2 rfl (by decide) v l.length (l.flatMap (tkE T)) hs hown ad m c (news.flatMap (tkE T)) hx hl hnews
  (fun u hu => by obtain ⟨y, _, hy⟩ := List.mem_flatMap.1 hu; exact tkE_one T y u hy) (by unfold maxLen; omega) (by omega) hbw ?_
 intro v' w' h1 h2 _ h4
 refine h v' w' ?_ h2 h4
 have e1 : (l ++ news).length = l.length + m := by simp [hm]
 have e2 : (l ++ news).flatMap (tkE T) = l.flatMap (tkE T) ++ news.flatMap (tkE T) := by simp
 unfold Own
 rw [e1, e2]
 exact h1
theorem GrL.gro {L : List Nat} {W w w' : World} {row : Option Nat} (h : GrL L W w) (k : w.grownBy w' row) (hr : ∀ b, row = some b → W.heap.size ≤ b) : GrL L W w' := by
 have hb : ∀ b, b < W.heap.size → w'.heap[b]? = w.heap[b]? := fun b hb => k.block b (Nat.lt_of_lt_of_le hb h.size) (fun e => by have := hr b e.symm; omega)
 refine ⟨⟨k.os.trans h.1.1, k.tape.trans h.1.2.1, k.output.trans h.1.2.2⟩, ⟨Nat.le_trans h.size k.size, fun j hj hn => (hb j hj).trans (h.block hj hn)⟩, fun D => ⟨Nat.le_trans h.size k.size, fun b o e d => ?_⟩, ⟨Nat.le_trans h.size k.size, fun b hb _ => hb.elim, fun b es c e => ?_⟩⟩
 ·rw [hb b (Array.getElem?_eq_some_iff.1 e).1]; exact (h.2.2.1 D).2 b o e d
 ·rw [hb b (Array.getElem?_eq_some_iff.1 e).1]; exact h.2.2.2.2.2 b es c e
theorem made1_get {α : Type} {enc : α → List Value} {x : α} {u : Value} (he : enc x = [u]) (n : Nat) : (madeCells #[u] (n * 1)).toList = (List.replicate n x).flatMap enc := by
 have h1 : (List.replicate n x).flatMap enc = List.replicate n u := by
  induction n with
  | zero => rfl
  | succ n ih => simp only [List.replicate_succ, List.flatMap_cons, he, ih]; rfl
 rw [h1]
 apply List.ext_getElem?
 intro i
 simp only [madeCells, Array.toList_map, Array.toList_range, List.getElem?_map, Nat.mul_one, List.getElem?_replicate]
 by_cases hi : i < n
 ·rw [List.getElem?_range hi, if_pos hi]
  simp [Nat.mod_one]
 ·rw [if_neg hi, List.getElem?_eq_none (by simpa using hi)]; rfl
theorem own_of_heap {α : Type} {enc : α → List Value} {size : Nat} {w : World} {b base : Nat} {cs : Array Value} {e : TypeId} {l : List α} {n : Nat} (h : w.heap[b]? = some (.cells cs e (0, 0))) (hb : base ≤ b) (hc : cs.toList = l.flatMap enc) (hl : (l.flatMap enc).length = n * size) (hn : n = l.length) (hm : n ≤ maxLen) : Own w base e size enc (.slice (some ⟨b, 0, none⟩) n n) l := by
 subst hn
 have hs : cs.size = l.length * size := by rw [← hl, ← hc]; simp
 exact ⟨hl, .inr ⟨b, l.length, cs, rfl, hb, h, Nat.le_refl _, hm, hs, by rw [hc, List.take_of_length_le (Nat.le_of_eq hl)]⟩⟩
theorem Tryz.infoBoolW : (Tryz.prog.info? 4).map (fun i => (i.zero, i.size, i.bytes)) = some (some (.bool false), 1, 1) := by kernel_rfl
theorem mk_bools (n : Nat) (hn : n ≤ 100000) (w : World) : (Instr.makeSlice 25 (.int .i64 n) (.int .i64 n)).run Tryz.prog w =
 .ok (.slice (some ⟨w.heap.size, 0, none⟩) n n) (w.alloc (.cells (madeCells #[.bool false] (n * 1)) 4)) := by
 obtain ⟨i0, hi, hz0, hz1, hz2⟩ := info_parts Tryz.infoBoolW
 have := run_make (P := Tryz.prog) w 25 4 i0 _ Tryz.underlying25 hi hz0 .i64 .i64 n n (by omega) (by omega) (by rw [hz2]; omega) (by omega)
 have hcs : (Value.bool false).cells = #[.bool false] := by simp [Value.cells]
 rw [hz1, hcs] at this
 simpa using this
def tkStart (K : CodeK) (c : K.C) : Tk K.C := ⟨(K.nx c ((0, 0, 0), false)).1, (K.nx c ((0, 0, 0), false)).2.1, (K.nx c ((0, 0, 0), false)).2.2, []⟩
def ifE (T : TypeId) (cv : Value) : List Value := [.iface T cv]
theorem ifE_len (T : TypeId) (cv : Value) : (ifE T cv).length = 1 := rfl
theorem kpb_gro {P : Nat → Prop} {w w' : World} {row : Option Nat} (k : w.grownBy w' row) (hp : ∀ b, P b → row ≠ some b) (hm : ∀ b es c, row = some b → w.heap[b]? ≠ some (.map es c)) : KpB P w w' :=
 ⟨k.size, fun b hb hl => k.block b hl (fun e => hp b hb e.symm), fun b es c e => by rw [k.block b (Array.getElem?_eq_some_iff.1 e).1 (fun h => hm b es c h.symm e)]; exact e⟩
theorem wmake_round (K : CodeK) {w X wr wx w9 Z : World} {P : Nat → Prop} (hP : ∀ b, P b → b < w.heap.size) (hwX : w.heap.size ≤ X.heap.size) {b8 : Nat} (hb8 : w.heap.size ≤ b8 ∧ b8 < X.heap.size) {ta : Option Addr} {tc j : Nat} {raw : List RTk} {T9 : TypeId} (hO : Own wr X.heap.size T9 11 (tkE K.T) (.slice ta j tc) raw) (hXr : X.heap.size ≤ wr.heap.size) (hC : Ext wr wx)
 (hg : wx.grownBy w9 (Value.slice ta j tc).ownBlock) (hz : GrL [b8] w9 Z) {a9 : Option Addr} {jq c9 : Nat} (ha : (Value.slice a9 jq c9).ownBlock = (Value.slice ta j tc).ownBlock ∨ (Value.slice a9 jq c9).ownBlock = some wx.heap.size) {cs : List K.C}
 (hT : ∀ (i : Nat) (r : RTk) (c : K.C), raw[i]? = some r → cs[i]? = some c → TkR K wr (fun b => ((P b ∨ X.heap.size ≤ b) ∧ (Value.slice ta j tc).ownBlock ≠ some b) ∧ b < wr.heap.size) r (tkStart K c)) (hrl : raw.length = j) {c : K.C} (hc : cs[j]? = some c) {cv' : Value}
 (hR : ∀ X', Agr P wr.heap.size wx X' → K.R X' (fun b => P b ∨ wr.heap.size ≤ b) cv' (K.nx c ((0, 0, 0), false)).1) :
 ∀ (i : Nat) (r : RTk) (c1 : K.C), (raw ++ [(cv', ((K.nx c ((0, 0, 0), false)).2.1, (K.nx c ((0, 0, 0), false)).2.2), (none, 0, 0))])[i]? = some r → cs[i]? = some c1 → TkR K Z (fun b => ((P b ∨ X.heap.size ≤ b) ∧ (Value.slice a9 jq c9).ownBlock ≠ some b) ∧ b < Z.heap.size) r (tkStart K c1) := by
 have hs1 := hC.size
 have hs2 := hg.size
 have hs3 := hz.size
 have hob := hO.bases
 have hot := hO.tops
 have hnew : ∀ b, b < wx.heap.size → (Value.slice ta j tc).ownBlock ≠ some b → (Value.slice a9 jq c9).ownBlock ≠ some b := fun b hb h1 => by
  rcases ha with ha | ha
  ·rw [ha]; exact h1
  ·rw [ha]; intro h2; simp at h2; omega
 have hmap : ∀ b es c, (Value.slice ta j tc).ownBlock = some b → wx.heap[b]? ≠ some (.map es c) := fun b es c h1 h2 => by
  obtain ⟨_, cs, h3⟩ := own_typed (hO.of_ext hC) h1
  rw [h3] at h2; simp at h2
 intro i r c1 e1 e2
 by_cases hi : i < raw.length
 ·rw [List.getElem?_append_left hi] at e1
  have h := hT i r c1 e1 e2
  have hk := ((KpB.of_ext (P := fun b => ((P b ∨ X.heap.size ≤ b) ∧ (Value.slice ta j tc).ownBlock ≠ some b) ∧ b < wr.heap.size) hC).trans (kpb_gro hg (fun b hb => hb.1.2) hmap)).trans (hz.kp (fun g hg h => by
   simp only [List.mem_cons, List.not_mem_nil, or_false] at hg
   subst hg
   rcases h.1.1 with h | h
   ·have := hP _ h; omega
   ·omega))
  exact (h.kp hk).imp (fun b hb => ⟨⟨hb.1.1, hnew b (by have := hb.2; omega) hb.1.2⟩, by have := hb.2; omega⟩)
 ·rw [List.getElem?_append_right (by omega)] at e1
  have hij : i = j := by
   by_cases h0 : i - raw.length = 0
   ·omega
   ·rw [List.getElem?_eq_none (by simp; omega)] at e1; cases e1
  subst hij
  rw [show i - raw.length = 0 by omega] at e1
  simp only [List.getElem?_cons_zero, Option.some.injEq] at e1
  subst e1
  rw [hc] at e2
  cases e2
  refine ⟨rfl, ?_, Sp.nil⟩
  have h0 := K.bnd (hR wx (Agr.refl _ _ _))
  refine K.imp (K.st h0 (((kpb_gro hg (fun b hb => ?_) hmap).trans (hz.kp (fun g hg h => ?_))).agp)) (fun b hb => ⟨⟨hb.1.imp id (fun h => by omega), hnew b hb.2 ?_⟩, by have := hb.2; omega⟩)
  ·intro h1
   have h2 := hob b h1
   have h3 := hot b h1
   rcases hb.1 with h | h
   ·have := hP _ h; omega
   ·omega
  ·simp only [List.mem_cons, List.not_mem_nil, or_false] at hg
   subst hg
   rcases h.1 with h | h
   ·have := hP _ h; omega
   ·omega
  ·intro h1
   have h2 := hob b h1
   have h3 := hot b h1
   rcases hb.1 with h | h
   ·have := hP _ h; omega
   ·omega
set_option maxRecDepth 100000 in
set_option maxHeartbeats 2000000 in
theorem wmake_any {K : CodeK} {w : World} {P : Nat → Prop} (hP : ∀ b, P b → b < w.heap.size) {pa va fa la sa : Option Addr} {pn pc vn vc fn fc ln lc sn sc : Nat} (q : Option Nat) (cr : Int) {m : Mc}
 (hm : McR w P (.slice pa pn pc) (.slice va vn vc) (.slice fa fn fc) (.slice la ln lc) (.slice sa sn sc) m) {ca : Option Addr} {cn cc : Nat} {cvs : List Value} {cs : List K.C} (hcs : Sp w P 1 (ifE K.T) (.slice ca cn cc) cvs) (hlen : cvs.length = cs.length) (hR : ∀ (i : Nat) (cv : Value) (c : K.C), cvs[i]? = some cv → cs[i]? = some c → K.R w P cv c) (h1000 : 0 < cs.length ∧ cs.length ≤ 1000) (hvn : cs.length ≤ vn) (hgd : K.Gd ((0, 0, 0), false)) :
 Calls Tryz.prog 55 #[.agg #[.slice pa pn pc, .slice va vn vc, .slice fa fn fc, .slice la ln lc, .map q, .slice sa sn sc, .int .i64 cr], .slice ca cn cc] w fun e w' => ∃ v', e = .returned (.tuple #[v', .int .i64 0]) ∧ Ext w w' ∧ WV K w' (fun b => P b ∨ w.heap.size ≤ b) q cr v' m (cs.map (tkStart K)) (List.replicate cs.length false) := by
 have hcn := hcs.lenN
 obtain ⟨cv0, hcv0⟩ : ∃ x, cvs[0]? = some x := ⟨cvs[0]'(by omega), List.getElem?_eq_getElem _⟩
 obtain ⟨hx0_, cb, co, rfl, hcb0, hcx0⟩ := hcs.1.at hcv0
 clear hcv0 hx0_ hcb0 hcx0 cv0
 have HM := hid hm
 have HP := hid hP
 have HCs := hid hcs
 have HR := hid hR
 have HGd := hid hgd
 have HLn := hid (And.intro hlen (And.intro hcn h1000))
 have hle : ¬ (vn : Int) < (cn : Int) := by omega
 have hdl : decide (vn < cn) = false := decide_eq_false (by omega)
 have hle2 : (cn : Int) ≤ (vn : Int) := by omega
 have hmk := mk_bools cn (by omega)
 clear hm hP hcs hR hgd hlen hcn h1000 hvn
 go_enter Tryz.func55, Tryz.ntmps55
 go_wp2_with fail
 refine (mcsize_any pa va fa la sa pn pc vn vc fn fc ln lc sn sc q cr _).mono ?_
 rintro e w1 ⟨rfl, r1, rfl⟩
 generalize hV_ : ext _ r1 = V
 have HE_V := hid (show Ext w V by rw [← hV_]; exact exP)
 have HB_b2 := hid (show Blk V (w.heap.size) [.slice pa pn pc, .slice va vn vc, .slice fa fn fc, .slice la ln lc, .map q, .slice sa sn sc, .int .i64 cr] by rw [← hV_]; exact bkP)
 have HB_b4 := hid (show Blk V (w.heap.size + 1) [.slice none 0 0, .slice none 0 0, .slice none 0 0, .slice none 0 0, .map none, .slice none 0 0, .int .i64 0, .slice none 0 0, .slice none 0 0] by rw [← hV_]; exact bkP)
 clear hV_
 obtain ⟨b4, hg_b4⟩ : ∃ g, g = w.heap.size + 1 := ⟨_, rfl⟩
 simp only [← hg_b4] at HB_b4 ⊢
 obtain ⟨b2, hg_b2⟩ : ∃ g, g = w.heap.size := ⟨_, rfl⟩
 simp only [← hg_b2] at HB_b2 ⊢
 have HN_V := hid (show b2 = w.heap.size ∧ b4 = w.heap.size + 1 ∧ b4 < V.heap.size from ⟨hg_b2, hg_b4, HB_b4.out.1⟩)
 clear hg_b2 hg_b4
 go_upto_region 4 with fail
 have a0 := (HB_b2.out).2.2 0 _ rfl
 have a1 := (HB_b2.out).2.2 1 _ rfl
 have a2 := (HB_b2.out).2.2 2 _ rfl
 have a3 := (HB_b2.out).2.2 3 _ rfl
 have a4 := (HB_b2.out).2.2 4 _ rfl
 have a5 := (HB_b2.out).2.2 5 _ rfl
 have a6 := (HB_b2.out).2.2 6 _ rfl
 have af := (HB_b2.out).2.1
 have ag := (HB_b2.out).1
 have HL_ := hid (fun w' (h : Ext V w') => (And.intro (Nat.lt_of_lt_of_le ag h.size) (And.intro (h.cell a0) (And.intro (h.cell a1) (And.intro (h.cell a2) (And.intro (h.cell a3) (And.intro (h.cell a4) (And.intro (h.cell a5) (h.cell a6)))))))))
 refine wp_region_facts [21, 22, 23, 24, 25, 8] [0, 1, 2, 3, 4, 5] rfl (fun w' => Ext V w') (fsAt [IsV ?_, IsV ?_, IsV ?_, (fun v w' => ∃ b, v = .slice (some ⟨b, 0, none⟩) cn cn ∧ w'.heap[b]? = some (.cells (madeCells #[.bool false] (cn * 1)) 4 (0, 0)) ∧ V.heap.size ≤ b), (fun v w' => ∃ b, v = .agg #[.slice pa pn pc, .slice va vn vc, .slice fa fn fc, .slice la ln lc, .map q, .slice sa sn sc, .int .i64 cr, .slice none 0 0, .slice (some ⟨b, 0, none⟩) cn cn] ∧ w'.heap[b]? = some (.cells (madeCells #[.bool false] (cn * 1)) 4 (0, 0)) ∧ V.heap.size ≤ b), (fun v w' => ∃ b, v = .pointer (some ⟨b, 0, none⟩) ∧ w'.heap[b]? = some (.cells #[.slice none 0 0, .slice none 0 0, .slice none 0 0, .slice none 0 0, .map none, .slice none 0 0, .int .i64 0, .slice none 0 0, .slice none 0 0] 92 (0, 0)) ∧ V.heap.size ≤ b)]) (by kernel_rfl) (by kernel_rfl) ((Ext.refl _).drew) (fun w w' h he => h.trans he) (aC (fun _ _ _ h _ => h) (aC (fun _ _ _ h _ => h) (aC (fun _ _ _ h _ => h) (aC (fun _ _ _ h he => by obtain ⟨q, h1, h2, h3⟩ := h; exact ⟨q, h1, heap_of_ext he h2, h3⟩) (aC (fun _ _ _ h he => by obtain ⟨q, h1, h2, h3⟩ := h; exact ⟨q, h1, heap_of_ext he h2, h3⟩) (aC (fun _ _ _ h he => by obtain ⟨q, h1, h2, h3⟩ := h; exact ⟨q, h1, heap_of_ext he h2, h3⟩) (AllOn.nil))))))) (aC ?_ (aC ?_ (aC ?_ (aC ?_ (aC ?_ (aC ?_ (AllOn.nil))))))) ?_
 rotate_left 3
 ·intro A w cx hO hD
  have e2 := evO hO 2 rfl
  clear hD hO
  refine hdV rfl ?_ rfl rfl ?_ ?_
  rotate_left 1
  ·simp [go_sem, e2, cx, HL_.out w cx]
   try with_reducible rfl
  ·exact IsV.mk (w := w)
 ·intro A w cx hO hD
  have e1 := evO hO 1 rfl
  clear hD hO
  refine hdV rfl ?_ rfl rfl ?_ ?_
  rotate_left 1
  ·simp [go_sem, e1, cx, HL_.out w cx]
   try with_reducible rfl
  ·exact IsV.mk (w := w)
 ·intro A w cx hO hD
  have e22 := evD (hD 1 (by kernel_rfl) 22 rfl)
  clear hD hO
  refine hdV rfl ?_ rfl rfl ?_ ?_
  rotate_left 1
  ·simp [go_sem, e22, cx, HL_.out w cx]
   try with_reducible rfl
  ·exact IsV.mk (w := w)
 ·intro A w cx hO hD
  have e23 := evD (hD 2 (by kernel_rfl) 23 rfl)
  clear hD hO
  refine hdW rfl rfl ?_
  simp [go_sem, e23, hmk]
  exact ⟨_, rfl, Ext.of_alloc _ _, _, rfl, heap_new rfl, cx.size⟩
 ·intro A w cx hO hD
  have e21 := evD (hD 0 (by kernel_rfl) 21 rfl)
  have e24 := hD 3 (by kernel_rfl) 24 rfl
  rw [ev_tm] at e24
  clear hD hO
  refine hdW rfl rfl ?_
  obtain ⟨b, e24, h1, h2⟩ := e24
  simp [go_sem, e21, e24]
  exact ⟨_, rfl, Ext.refl _, b, rfl, by simpa using h1, h2⟩
 ·intro A w cx hO hD
  clear hD hO
  refine hdW rfl rfl ?_
  simp [go_sem]
  exact ⟨_, rfl, Ext.of_alloc _ _, _, rfl, heap_new rfl, cx.size⟩
 intro u wx hC hF
 obtain ⟨f0, f1, f2, f3, f4, f5, _⟩ := hF
 have g0 : u 0 = _ := f0
 have g1 : u 1 = _ := f1
 have g2 : u 2 = _ := f2
 obtain ⟨v3, g3⟩ : ∃ v, u 3 = v := ⟨_, rfl⟩
 rw [g3] at f3
 obtain ⟨v4, g4⟩ : ∃ v, u 4 = v := ⟨_, rfl⟩
 rw [g4] at f4
 obtain ⟨v5, g5⟩ : ∃ v, u 5 = v := ⟨_, rfl⟩
 rw [g5] at f5
 simp only [fPut, Nat.zero_add, Nat.reduceAdd, g0, g1, g2, g3, g4, g5, Act.put, List.setIfInBounds_toArray, List.set_cons_zero, List.set_cons_succ, List.length_cons, List.length_nil, List.drop_succ_cons, List.drop_zero]
 clear g0 g1 g2 g3 g4 g5 f0 f1 f2
 clear f3
 obtain ⟨bb, rfl, hb1, hb2⟩ := f4
 obtain ⟨b8, rfl, h81, h82⟩ := f5
 have hne : bb ≠ b8 := by intro h; subst h; exact (show ¬ 4 = 92 by decide) (congrArg (fun o => match o with | some (Obj.cells _ t _) => t | _ => 0) (hb1.symm.trans h81))
 have HB8 := hid (show Blk wx b8 [.slice none 0 0, .slice none 0 0, .slice none 0 0, .slice none 0 0, .map none, .slice none 0 0, .int .i64 0, .slice none 0 0, .slice none 0 0] from blk_heap h81)
 have HBo := hid hb1
 have HEx := hid (HE_V.out.trans hC)
 have HB4 := hid (HB_b4.out.of hC)
 have HNx := hid (show (w.heap.size ≤ b4 ∧ b4 < bb ∧ b4 < b8) ∧ bb ≠ b8 ∧ bb < wx.heap.size by have h1 := HN_V.out; have := (Array.getElem?_eq_some_iff.1 hb1).1; omega)
 clear hC hb1 hb2 h81 h82 hne a0 a1 a2 a3 a4 a5 a6 af ag HB_b2 HB_b4 HN_V HE_V hle hle2 hmk
 have k0 := HB8.out.2.2 0 _ rfl
 have k1 := HB8.out.2.2 1 _ rfl
 have k2 := HB8.out.2.2 2 _ rfl
 have k3 := HB8.out.2.2 3 _ rfl
 have k4 := HB8.out.2.2 4 _ rfl
 have k5 := HB8.out.2.2 5 _ rfl
 have k6 := HB8.out.2.2 6 _ rfl
 have k7 := HB8.out.2.2 7 _ rfl
 have k8 := HB8.out.2.2 8 _ rfl
 have kf := HB8.out.2.1
 have kg := HB8.out.1
 go_upto_region 5 with fail
 generalize hV_ : World.setCell _ _ _ = X
 have HG_X := hid (show GrL [b8] wx X by rw [← hV_]; exact glP)
 have HBX := hid (show Blk X b8 [.slice pa pn pc, .slice va vn vc, .slice fa fn fc, .slice la ln lc, .map q, .slice sa sn sc, .int .i64 cr, .slice none 0 0, .slice (some ⟨bb, 0, none⟩) cn cn] by rw [← hV_]; have h8 := HB8.out; exact bcP)
 clear hV_ k0 k1 k2 k3 k4 k5 k6 k7 k8 kf kg HB8
 have HEX := hid (HEx.out.grl HG_X.out (by have := HNx.out; simp; omega))
 have HBoX := hid (show X.heap[bb]? = some (.cells (madeCells #[.bool false] (cn * 1)) 4 (0, 0)) by rw [HG_X.out.block HNx.out.2.2 (by have := HNx.out; simp; omega)]; exact HBo.out)
 have HB4X := hid (HB4.out.grl HG_X.out (by have := HNx.out; simp; omega))
 have HbX := hid (show b8 < X.heap.size ∧ w.heap.size ≤ X.heap.size from ⟨HBX.out.1, HEX.out.size⟩)
 clear HB4 HBo HEx HG_X
 go_wp2_with fail
 go_loopw [28] (fun i_ wr => ∃ j : Nat, j ≤ cn ∧ i_ = .int .i64 j ∧ ∃ (ta : Option Addr) (tc : Nat) (raw : List RTk), Hid (Blk wr b8 [.slice pa pn pc, .slice va vn vc, .slice fa fn fc, .slice la ln lc, .map q, .slice sa sn sc, .int .i64 cr, .slice ta j tc, .slice (some ⟨bb, 0, none⟩) cn cn]) ∧ Hid (Own wr X.heap.size 53 11 (tkE K.T) (.slice ta j tc) raw) ∧ Hid (raw.length = j ∧ ∀ (i : Nat) (r : RTk) (c : K.C), raw[i]? = some r → cs[i]? = some c → TkR K wr (fun b => ((P b ∨ X.heap.size ≤ b) ∧ (Value.slice ta j tc).ownBlock ≠ some b) ∧ b < wr.heap.size) r (tkStart K c)) ∧ Hid (GrL [b8] X wr)) (fun i_ _ => cn - (intOf i_).toNat)
 case atStart => exact ⟨0, Nat.zero_le _, rfl, none, 0, [], HBX, hid Own.nil, hid ⟨rfl, fun i h x e => by simp at e⟩, hid GrL.refl⟩
 case round =>
  clear HBX
  obtain ⟨j, hjn, rfl, ta, tc, raw, HB, HO, HT, HG⟩ := hrel
  have HJn := hid hjn
  clear hjn
  have HEr := hid (HEX.out.grl HG.out (by have := HNx.out; simp; omega))
  by_cases hjm : j < cn
  ·obtain ⟨cv, hcv⟩ : ∃ x, cvs[j]? = some x := ⟨cvs[j]'(by have := HLn.out; omega), List.getElem?_eq_getElem _⟩
   obtain ⟨c, hcc⟩ : ∃ x, cs[j]? = some x := ⟨cs[j]'(by have := HLn.out; omega), List.getElem?_eq_getElem _⟩
   have HRc := hid (K.st (HR.out j cv c hcv hcc) (KpB.of_ext HEr.out).agp)
   have HCj := hid hcc
   obtain ⟨hx_, cb1, co1, hca, hcb, hcx⟩ := (HCs.out.1.of (ifE_len _) HEr.out).at hcv
   obtain ⟨rfl, rfl⟩ : cb = cb1 ∧ co = co1 := by simpa using hca
   have x0 := hcx 0 (by omega)
   simp [ifE] at x0
   obtain ⟨jq, hjq⟩ : ∃ x, x = j + 1 := ⟨_, rfl⟩
   have hwq : wrap64 ((j : Int) + 1) = (jq : Int) := by have := HLn.out; rw [IntWalk.wrap64_in _ (by omega)]; omega
   have hjm2 : (j : Int) < (cn : Int) := by omega
   have HJm := hid hjm
   have HJq := hid hjq
   have HSta := hid (fun (X' : World) (hX : Ext wr X') => tstart_any K.hT cv wr X' hX (Q := P) (fun b hb => Nat.lt_of_lt_of_le (HP.out b hb) HEr.out.size) (next_okK (fun b hb => Nat.lt_of_lt_of_le (HP.out b hb) HEr.out.size) HRc.out HGd.out))
   clear hcv hcc hx_ hcx hjm hjq hca
   obtain ⟨a', ha'⟩ : ∃ x, x = (K.nx c ((0, 0, 0), false)).2.1 := ⟨_, rfl⟩
   obtain ⟨d', hd'⟩ : ∃ x, x = (K.nx c ((0, 0, 0), false)).2.2 := ⟨_, rfl⟩
   obtain ⟨cn', hcn'⟩ : ∃ x, x = (K.nx c ((0, 0, 0), false)).1 := ⟨_, rfl⟩
   have HAD := hid (And.intro ha' (And.intro hd' hcn'))
   rw [← ha', ← hd', ← hcn'] at HSta
   clear ha' hd' hcn'
   go_upto_region 8 with fail
   clear x0 hcb
   have m7 := HB.out.2.2 7 _ rfl
   have mg := HB.out.1
   have HL_ := hid (fun w' (h : Ext wr w') => (And.intro (Nat.lt_of_lt_of_le mg h.size) (h.cell m7)))
   refine wp_region_facts [32, 33, 34, 35, 36] [0, 1, 2, 3, 4] rfl (fun w' => Ext wr w') (fsAt [IsV ?_, IsV ?_, IsV ?_, (fun v w' => ∃ cv', v = .agg (tkE K.T (cv', (a', d'), (none, 0, 0))).toArray ∧ ∀ X', Agr P wr.heap.size w' X' → K.R X' (fun b => P b ∨ wr.heap.size ≤ b) cv' cn'), (fun v w' => ∃ q, v = .slice (some ⟨q, 0, none⟩) 1 1 ∧ ∃ cv', Blk w' q (tkE K.T (cv', (a', d'), (none, 0, 0))) ∧ ∀ X', Agr P wr.heap.size w' X' → K.R X' (fun b => P b ∨ wr.heap.size ≤ b) cv' cn')]) (by kernel_rfl) (by kernel_rfl) ((Ext.refl _).drew) (fun w w' h he => h.trans he) (aC (fun _ _ _ h _ => h) (aC (fun _ _ _ h _ => h) (aC (fun _ _ _ h _ => h) (aC (fun _ _ _ h he => by obtain ⟨cv', h1, h2⟩ := h; exact ⟨cv', h1, fun X hX => h2 X (Agr.ext he hX)⟩) (aC (fun _ _ _ h he => by obtain ⟨q, h1, cv', h2, h3⟩ := h; exact ⟨q, h1, cv', h2.of he, fun X hX => h3 X (Agr.ext he hX)⟩) (AllOn.nil)))))) (aC ?_ (aC ?_ (aC ?_ (aC ?_ (aC ?_ (AllOn.nil)))))) ?_
   rotate_left 3
   ·intro A w cx hO hD
    have e8 := evO hO 8 rfl
    clear hD hO
    refine hdV rfl ?_ rfl rfl ?_ ?_
    rotate_left 1
    ·simp [go_sem, e8, cx, HL_.out w cx]
     try with_reducible rfl
    ·exact IsV.mk (w := w)
   ·intro A w cx hO hD
    have e32 := evD (hD 0 (by kernel_rfl) 32 rfl)
    clear hD hO
    refine hdV rfl ?_ rfl rfl ?_ ?_
    rotate_left 1
    ·simp [go_sem, e32, cx, HL_.out w cx]
     try with_reducible rfl
    ·exact IsV.mk (w := w)
   ·intro A w cx hO hD
    have e10 := evO hO 10 rfl
    clear hD hO
    refine hdV rfl ?_ rfl rfl ?_ ?_
    rotate_left 1
    ·simp [go_sem, e10, cx, HL_.out w cx]
     try with_reducible rfl
    ·exact IsV.mk (w := w)
   ·intro A w cx hO hD
    have e34 := evD (hD 2 (by kernel_rfl) 34 rfl)
    clear hD hO
    refine hdW rfl rfl ?_
    simp [go_sem, e34]
    refine (HSta.out _ cx).mono ?_
    rintro e w' ⟨cv', a1, d1, rfl, he, hR⟩
    obtain ⟨_, hra, hrd⟩ := hR w' (Agr.refl _ _ _)
    cases hra; cases hrd
    exact ⟨_, rfl, he, cv', rfl, fun X hX => (hR X (hX.wide (fun _ h => h) cx.size)).1⟩
   ·intro A w cx hO hD
    have e35 := hD 3 (by kernel_rfl) 35 rfl
    rw [ev_tm] at e35
    clear hD hO
    refine hdW rfl rfl ?_
    obtain ⟨cv', e35, hR⟩ := e35
    obtain ⟨z1, z2, ⟨z3, z4, z5⟩, z6, z7, z8⟩ := a'
    cases d'
    ·simp [go_sem, e35, tkE, tkL, nxV]
     exact ⟨_, rfl, Ext.of_alloc _ _, _, rfl, cv', Blk.new _ _ rfl rfl, fun X hX => hR X (Agr.ext (Ext.of_alloc _ _) hX)⟩
    ·simp [go_sem, e35, tkE, tkL, nxV]
     exact ⟨_, rfl, Ext.of_alloc _ _, _, rfl, cv', Blk.new _ _ rfl rfl, fun X hX => hR X (Agr.ext (Ext.of_alloc _ _) hX)⟩
   intro u wx hC hF
   obtain ⟨f0, f1, f2, f3, f4, _⟩ := hF
   have g0 : u 0 = _ := f0
   have g1 : u 1 = _ := f1
   have g2 : u 2 = _ := f2
   obtain ⟨v3, g3⟩ : ∃ v, u 3 = v := ⟨_, rfl⟩
   rw [g3] at f3
   obtain ⟨v4, g4⟩ : ∃ v, u 4 = v := ⟨_, rfl⟩
   rw [g4] at f4
   simp only [fPut, Nat.zero_add, Nat.reduceAdd, g0, g1, g2, g3, g4, Act.put, List.setIfInBounds_toArray, List.set_cons_zero, List.set_cons_succ, List.length_cons, List.length_nil, List.drop_succ_cons, List.drop_zero]
   clear g0 g1 g2 g3 g4 f0 f1 f2
   obtain ⟨qn, rfl, cv', hq, hR⟩ := f4
   clear f3
   have HRn := hid hR
   have HQ := hid hq
   have HC := hid hC
   have HBx := hid (HB.out.of hC)
   clear hC hR hq m7 mg
   refine tk_append_gb rfl _ _ rfl (by have h1 := HG.out.size; have h2 := HC.out.size; omega) rfl (HO.out.of_ext HC.out) _ 1 1 rfl [(cv', (a', d'), (none, 0, 0))] rfl (blk_newsT HQ.out) (by have h1 := HT.out.1; have h2 := HLn.out; have h3 := HJm.out; simp; omega) ?_; rintro v9 w9 hv9 hg9 ha9; have HG9 := hid (show wx.grownBy w9 (Value.slice ta j tc).ownBlock from hg9); have HA9 := hid (show v9.ownBlock = (Value.slice ta j tc).ownBlock ∨ v9.ownBlock = some wx.heap.size from ha9); have HV9 := hid hv9; have HGN := hid ((HG.out.trans (GrL.of_ext HC.out)).gro hg9 HO.out.bases); have HB9 := hid (HBx.out.gro hg9 (HO.out.not_at HbX.out.1)); obtain ⟨a9, c9, hs9⟩ := Own.shape hv9; have hl9 : List.length (raw ++ [((cv', (a', d'), (none, 0, 0)) : RTk)]) = jq := (by rw [List.length_append, HT.out.1, HJq.out]; rfl); rw [hl9] at hs9; clear hl9; subst hs9; clear hg9 ha9 hv9; have y0 := HB9.out.2.2 7 _ rfl; have yf := HB9.out.2.1; have yg := HB9.out.1
   go_upto_region 9 with fail
   generalize hZ_ : World.setCell _ _ _ = Z
   have HGZ := hid (show GrL [b8] w9 Z by rw [← hZ_]; exact glP)
   have HBZ := hid (show Blk Z b8 [.slice pa pn pc, .slice va vn vc, .slice fa fn fc, .slice la ln lc, .map q, .slice sa sn sc, .int .i64 cr, .slice a9 jq c9, .slice (some ⟨bb, 0, none⟩) cn cn] by rw [← hZ_]; have h9 := HB9.out; exact bcP)
   clear hZ_ y0 yf yg
   go_wp2_with fail
   go_roundw
   case rel =>
    refine ⟨jq, by have := HJq.out; have := HJm.out; omega, by first | rfl | rw [hwq], a9, c9, _, HBZ, hid (HV9.out.grl HGZ.out (by simp only [List.mem_cons, List.not_mem_nil, or_false]; rintro g rfl; exact HV9.out.not_at HbX.out.1)), hid ⟨by rw [List.length_append, HT.out.1, HJq.out]; rfl, ?_⟩, hid (HGN.out.trans HGZ.out)⟩
    rw [HAD.out.1, HAD.out.2.1]
    have hr := HRn.out
    rw [HAD.out.2.2] at hr
    exact wmake_round K HP.out HbX.out.2 (by have := HNx.out; have := HbX.out; omega) HO.out HG.out.size HC.out HG9.out HGZ.out HA9.out HT.out.2 HT.out.1 HCj.out hr
   case measure => first | exact meas_next HJm.out HJq.out | (rw [hwq]; exact meas_next HJm.out HJq.out)
  ·have hjn : j = cn := by have := HJn.out; omega
   have hjm2 : ¬ (j : Int) < (cn : Int) := by omega
   have hjm3 : (cn : Int) ≤ (j : Int) := by omega
   subst hjn
   clear hjm
   go_upto_region 10 with fail
   have k0 := HB.out.2.2 0 _ rfl
   have k1 := HB.out.2.2 1 _ rfl
   have k2 := HB.out.2.2 2 _ rfl
   have k3 := HB.out.2.2 3 _ rfl
   have k4 := HB.out.2.2 4 _ rfl
   have k5 := HB.out.2.2 5 _ rfl
   have k6 := HB.out.2.2 6 _ rfl
   have k7 := HB.out.2.2 7 _ rfl
   have k8 := HB.out.2.2 8 _ rfl
   have kg := HB.out.1
   have h4 := HB4X.out.grl HG.out (by have := HNx.out; simp; omega)
   have l0 := h4.2.2 0 _ rfl
   have l1 := h4.2.2 1 _ rfl
   have l2 := h4.2.2 2 _ rfl
   have l3 := h4.2.2 3 _ rfl
   have l4 := h4.2.2 4 _ rfl
   have l5 := h4.2.2 5 _ rfl
   have l6 := h4.2.2 6 _ rfl
   have l7 := h4.2.2 7 _ rfl
   have l8 := h4.2.2 8 _ rfl
   have lf := h4.2.1
   have lg := h4.1
   clear h4
   (repeat (first | go_values | go_skip | go_guarded | go_step | go_upon | (simp only [Int.not_lt, Int.not_le] at *; go_simp) | (go_ite <;> go_prune <;> (try go_simp))))
   refine bodyPost_ret (v := .tuple #[.agg #[.slice pa pn pc, .slice va vn vc, .slice fa fn fc, .slice la ln lc, .map q, .slice sa sn sc, .int .i64 cr, .slice ta j tc, .slice (some ⟨bb, 0, none⟩) j j], .int .i64 0]) (by simp [results, Tryz.results55, go_sem, l0, l1, l2, l3, l4, l5, l6, l7, l8, lf, lg]) rfl ⟨_, rfl, ?_⟩
   generalize hZ_ : World.setCell _ _ _ = Z
   have hgz : GrL [b4] wr Z := by rw [← hZ_]; exact glP
   clear hZ_ k0 k1 k2 k3 k4 k5 k6 k7 k8 kg l0 l1 l2 l3 l4 l5 l6 l7 l8 lf lg
   have heZ : Ext w Z := HEr.out.grl hgz (by have := HNx.out; simp; omega)
   have hnx := HNx.out
   have hbx := HbX.out
   have hln := HLn.out
   have hxr := HG.out.size
   refine ⟨heZ, _, _, _, _, _, _, _, _, _, _, _, _, _, _, _, _, _, _, _, _, _, rfl, (HM.out.of heZ).imp (fun b hb => .inl hb), ⟨raw, Sp.own (tkE_len _) (HO.out.grl hgz (by simp only [List.mem_cons, List.not_mem_nil, or_false]; rintro g rfl; exact HO.out.not_at (by omega))) (fun b hb => .inr (by omega)), by rw [List.length_map]; have := HT.out.1; omega, fun i r t e1 e2 => ?_⟩, ?_⟩
   ·rw [List.getElem?_map] at e2
    obtain ⟨c, hc, rfl⟩ := Option.map_eq_some_iff.1 e2
    refine ((HT.out.2 i r c e1 hc).kp (hgz.kp (fun g hg h => ?_))).imp (fun b hb => hb.1.1.imp id (fun h => by omega))
    simp only [List.mem_cons, List.not_mem_nil, or_false] at hg
    subst hg
    rcases h.1.1 with h | h
    ·have := HP.out _ h; omega
    ·omega
   ·have hbo : Z.heap[bb]? = some (.cells (madeCells #[.bool false] (j * 1)) 4 (0, 0)) := by
     rw [hgz.block (by have := (Array.getElem?_eq_some_iff.1 HBoX.out).1; omega) (by simp; omega), HG.out.block (Array.getElem?_eq_some_iff.1 HBoX.out).1 (by simp; omega)]
     exact HBoX.out
    have hjl : j = cs.length := by omega
    rw [← hjl]
    exact Sp.own blE_len (own_of_heap (n := j) (base := w.heap.size) hbo (by omega) (made1_get (x := false) rfl j) (by rw [flat_len blE_len]; simp) (by simp) (by unfold maxLen; omega)) (fun b hb => .inr hb)
end Go.Proofs.YtiacdohaiidehaaGreatDoor
