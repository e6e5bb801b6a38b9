/- Walks of the tasks (simulcast/task): Start, Act, Give, Done, Code, over any code whose Next is known. -/
import Derived.Test.YtiacdohaiidehaaGreatDoorPk05
import Derived.Laws.ByValue
import Derived.Laws.EntriesVeiled
import Derived.Deep.DeepCutAuto
namespace Go.Proofs.YtiacdohaiidehaaGreatDoor
set_option linter.unusedSimpArgs false
set_option linter.unusedVariables false
open Go.RowKit
def Agr (Q : Nat → Prop) (hi : Nat) (w V : World) : Prop := w.heap.size ≤ V.heap.size ∧ ∀ b, b < w.heap.size → Q b ∨ hi ≤ b → V.heap[b]? = w.heap[b]?
theorem Agr.refl (Q : Nat → Prop) (hi : Nat) (w : World) : Agr Q hi w w := ⟨Nat.le_refl _, fun _ _ _ => rfl⟩
theorem Agr.of_ext {Q : Nat → Prop} {hi : Nat} {w V : World} (h : Ext w V) : Agr Q hi w V := ⟨h.size, fun b hb _ => by obtain ⟨r, rfl⟩ := h; exact heap_ext w r b hb⟩
theorem Agr.trans {Q : Nat → Prop} {hi : Nat} {a b c : World} (h : Agr Q hi a b) (k : Agr Q hi b c) : Agr Q hi a c :=
 ⟨Nat.le_trans h.1 k.1, fun n hn hq => (k.2 n (Nat.lt_of_lt_of_le hn h.1) hq).trans (h.2 n hn hq)⟩
theorem Agr.wide {Q Q' : Nat → Prop} {hi hi' : Nat} {w V : World} (h : Agr Q hi w V) (h1 : ∀ b, Q' b → Q b) (h2 : hi ≤ hi') : Agr Q' hi' w V :=
 ⟨h.1, fun b hb hq => h.2 b hb (hq.imp (h1 b) (fun x => Nat.le_trans h2 x))⟩
theorem Agr.grn {Q : Nat → Prop} {hi g : Nat} {a b V : World} (k : Grn g a b) (h : Agr Q hi b V) {hi' : Nat} (h1 : hi ≤ hi') (h2 : ¬ Q g) (h3 : g < hi') : Agr Q hi' a V :=
 ⟨Nat.le_trans k.size h.1, fun n hn hq => (h.2 n (Nat.lt_of_lt_of_le hn k.size) (hq.imp id (fun x => Nat.le_trans h1 x))).trans (k.block n hn (by
  intro he; simp at he; subst he; rcases hq with hq | hq; exact h2 hq; omega))⟩
theorem Agr.ext {Q : Nat → Prop} {hi : Nat} {a b V : World} (k : Ext a b) (h : Agr Q hi b V) : Agr Q hi a V := (Agr.of_ext k).trans h
theorem Agr.cell {Q : Nat → Prop} {hi : Nat} {w V : World} (h : Agr Q hi w V) {b i : Nat} (hb : b < w.heap.size) (hq : Q b ∨ hi ≤ b) : V.cell? ⟨b, i, none⟩ = w.cell? ⟨b, i, none⟩ := World.cell?_of_block (w := w) (h.2 b hb hq)
theorem Sl.agr {α : Type} {size : Nat} {enc : α → List Value} {w V : World} {v : Value} {l : List α} (h : Sl w size enc v l) {Q : Nat → Prop} {hi : Nat} (k : Agr Q hi w V) (hb : l ≠ [] → ∀ a n c, v = .slice (some a) n c → Q a.block ∨ hi ≤ a.block) : Sl V size enc v l := by
 obtain ⟨a, c, rfl, hm, hl⟩ := h
 refine ⟨a, c, rfl, hm, fun hn => ?_⟩
 obtain ⟨b, o, rfl, hbl, hc⟩ := hl hn
 refine ⟨b, o, rfl, Nat.lt_of_lt_of_le hbl k.1, fun i x hx j hj => ?_⟩
 rw [k.cell hbl (hb hn _ _ _ rfl)]
 exact hc i x hx j hj
theorem blk_newsT {α : Type} {enc : α → List Value} {w : World} {b : Nat} {x : α} (h : Blk w b (enc x)) : ∀ (j : Nat) (u : Value), ([x].flatMap enc)[j]? = some u → w.cell? ((⟨b, 0, none⟩ : Addr).add j) = some u := by
 intro j u hu
 have hadd : (⟨b, 0, none⟩ : Addr).add j = ⟨b, j, none⟩ := by unfold Addr.add; split <;> simp_all
 rw [hadd]
 exact h.2.2 j u (by simpa using hu)
theorem Own.openT {α : Type} {enc : α → List Value} {base : Nat} {e : TypeId} {size : Nat} {v : Value} {l : List α} {w : World} (h : Own w base e size enc v l) (h0 : 0 < l.length) : ∃ g c, v = .slice (some ⟨g, 0, none⟩) l.length c ∧ base ≤ g ∧ g < w.heap.size := by
 rcases h.2 with ⟨h1, h2⟩ | ⟨g', cap, cur, h1, hb, hg, _⟩
 ·omega
 ·exact ⟨g', cap, h1, hb, (Array.getElem?_eq_some_iff.1 hg).1⟩
theorem Sl.grnT {α : Type} {size : Nat} {enc : α → List Value} (henc : ∀ x, (enc x).length = size) {g : Nat} {w w' : World} {v : Value} {l : List α} (h : Sl w size enc v l) (k : Grn g w w') (hb : ∀ a n c, v = .slice (some a) n c → a.block ≠ g) : Sl w' size enc v l := by
 obtain ⟨a, c, rfl, hm, hl⟩ := h
 refine ⟨a, c, rfl, hm, fun hn => ?_⟩
 obtain ⟨b, o, rfl, hbl, hc⟩ := hl hn
 have hne := hb _ _ _ rfl
 refine ⟨b, o, rfl, Nat.lt_of_lt_of_le hbl k.size, fun i x hx j hj => ?_⟩
 have h1 := hc i x hx j hj
 rw [List.getElem?_eq_getElem (by rw [henc]; exact hj)] at h1 ⊢
 exact k.cell hne h1
theorem Sl.clipT {α : Type} {w : World} {size : Nat} {enc : α → List Value} {l : List α} {a : Option Addr} {c : Nat} (h : Sl w size enc (.slice a l.length c) l) : Sl w size enc (.slice a l.length l.length) l := by
 have := Sl.take h l.length (Nat.le_refl _) l.length (Nat.le_refl _)
 rwa [List.take_length] at this
theorem Sl.capT {α : Type} {w : World} {size : Nat} {enc : α → List Value} {l : List α} {a : Option Addr} {n c : Nat} (h : Sl w size enc (.slice a n c) l) : n = l.length ∧ l.length ≤ c := by
 obtain ⟨_, _, hv, hm, _⟩ := h
 simp only [Value.slice.injEq] at hv
 exact ⟨hv.2.1, by rw [hv.2.2]; exact hm.2⟩
structure A8 where
 op : Int
 at_ : Int
 o : Wd
 n : Wd
abbrev a8E (a : A8) : List Value := [.int .i64 a.op, .int .i64 a.at_, .int .i64 a.o.1, .int .u32 a.o.2.1, .int .u32 a.o.2.2, .int .i64 a.n.1, .int .u32 a.n.2.1, .int .u32 a.n.2.2]
abbrev a8Z : A8 := ⟨0, 0, (0, 0, 0), (0, 0, 0)⟩
abbrev Gt := Wd × Bool
abbrev gtE (g : Gt) : List Value := [.int .i64 g.1.1, .int .u32 g.1.2.1, .int .u32 g.1.2.2, .bool g.2]
theorem gtE_len (g : Gt) : (gtE g).length = 4 := rfl
theorem Tryz.infoGot : (Tryz.prog.info? 50).map (fun i => (i.zero, i.size, i.bytes)) = some (some (.agg #[.int .i64 0, .int .u32 0, .int .u32 0, .bool false]), 4, 24) := by kernel_rfl
theorem gt_clip_op {o : Oper} {a : Act} {K : Act → World → Prop} {Q : Exit → Act → World → Prop} {w : World} {l : List Gt}
 (s x : Operand) (ho : o.op = .call { callee := .builtin .append, args := #[s, x], argTypes := #[23, 23] })
 {sa : Option Addr} {n : Nat} (hs : a.eval s = .slice sa n n) (hsl : Sl w 4 gtE (.slice sa n n) l)
 (ad : Addr) (m c : Nat) (hx : a.eval x = .slice (some ad) m c) (news : List Gt) (hm : news.length = m) (hm0 : 0 < m)
 (hnews : ∀ (j : Nat) (u : Value), (news.flatMap gtE)[j]? = some u → w.cell? (ad.add j) = some u) (hlen : n + m ≤ 1000000)
 (h : ∀ v' r, Own (ext w r) w.heap.size 50 4 gtE v' (l ++ news) → K (a.put o.dst v') (ext w r)) : Oper.wp Tryz.prog o a w K Q := by
 obtain ⟨i0, hi, hz0, hz1, hz2⟩ := info_parts Tryz.infoGot
 exact app_clip_op Tryz.underlying23 hi hz0 hz1 hz2 rfl (by decide) gtE_len s x ho hs hsl ad m c hx news hm hm0 hnews (by unfold maxLen; omega) (by omega) h
structure CodeT (T : TypeId) (F : FuncId) : Prop where
 conc : Tryz.prog.concrete T = true
 finds : ∀ rv w, Sem.run Tryz.prog (method (Tryz.prog.types.size + 100) T rv "Next") w = .ok (F, rv) w
 enters : ∀ args w, (callFunc F args).run Tryz.prog w = .ok (.enter F args) w
abbrev tkL (c n : Value) (a : A8) (ga : Option Addr) (gn gc : Nat) : List Value := [c, n, .int .i64 a.op, .int .i64 a.at_, .int .i64 a.o.1, .int .u32 a.o.2.1, .int .u32 a.o.2.2, .int .i64 a.n.1, .int .u32 a.n.2.1, .int .u32 a.n.2.2, .slice ga gn gc]
abbrev nxV (T : TypeId) (cv : Value) (d : Bool) : Value := if d = true then .nilFunc else .func (.method "Next") #[.iface T cv] #[]
abbrev tkV (T : TypeId) (cv : Value) (a : A8) (d : Bool) (ga : Option Addr) (gn gc : Nat) : Value := .agg (tkL (.iface T cv) (nxV T cv d) (if d = true then a8Z else a) ga gn gc).toArray
abbrev Z11 : List Value := [.nilIface, .nilFunc, .int .i64 0, .int .i64 0, .int .i64 0, .int .u32 0, .int .u32 0, .int .i64 0, .int .u32 0, .int .u32 0, .slice none 0 0]
theorem eq_code_nil (T : TypeId) (cv : Value) (w : World) : (binOp .eql 33 (.iface T cv) .nilIface).run Tryz.prog w = .ok (.bool false) w := by kernel_rfl
theorem eq_nil_nil (w : World) : (binOp .eql 33 .nilIface .nilIface).run Tryz.prog w = .ok (.bool true) w := by kernel_rfl
theorem st11 {w : World} {b : Nat} {v0 v1 v2 v3 v4 v5 v6 v7 v8 v9 v10 : Value} (h : Blk w b [v0, v1, v2, v3, v4, v5, v6, v7, v8, v9, v10]) (x0 x1 x2 x3 x4 x5 x6 x7 x8 x9 x10 : Value) :
 ∃ W, (((((((((((w.setCell ⟨b, 0, none⟩ x0).setCell ⟨b, 1, none⟩ x1).setCell ⟨b, 2, none⟩ x2).setCell ⟨b, 3, none⟩ x3).setCell ⟨b, 4, none⟩ x4).setCell ⟨b, 5, none⟩ x5).setCell ⟨b, 6, none⟩ x6).setCell ⟨b, 7, none⟩ x7).setCell ⟨b, 8, none⟩ x8).setCell ⟨b, 9, none⟩ x9).setCell ⟨b, 10, none⟩ x10) = W ∧ Blk W b [x0, x1, x2, x3, x4, x5, x6, x7, x8, x9, x10] ∧ Grn b w W := ⟨_, rfl, (((((((((((h.set 0 (by simp) _).set 1 (by simp) _).set 2 (by simp) _).set 3 (by simp) _).set 4 (by simp) _).set 5 (by simp) _).set 6 (by simp) _).set 7 (by simp) _).set 8 (by simp) _).set 9 (by simp) _).set 10 (by simp) _), (((((((((((Grn.refl.setCell _ _).setCell _ _).setCell _ _).setCell _ _).setCell _ _).setCell _ _).setCell _ _).setCell _ _).setCell _ _).setCell _ _).setCell _ _)⟩
theorem st8at2 {w : World} {b : Nat} {v0 v1 v2 v3 v4 v5 v6 v7 v8 v9 v10 : Value} (h : Blk w b [v0, v1, v2, v3, v4, v5, v6, v7, v8, v9, v10]) (x0 x1 x2 x3 x4 x5 x6 x7 : Value) :
 ∃ W, ((((((((w.setCell ⟨b, 2, none⟩ x0).setCell ⟨b, 3, none⟩ x1).setCell ⟨b, 4, none⟩ x2).setCell ⟨b, 5, none⟩ x3).setCell ⟨b, 6, none⟩ x4).setCell ⟨b, 7, none⟩ x5).setCell ⟨b, 8, none⟩ x6).setCell ⟨b, 9, none⟩ x7) = W ∧ Blk W b [v0, v1, x0, x1, x2, x3, x4, x5, x6, x7, v10] ∧ Grn b w W := ⟨_, rfl, ((((((((h.set 2 (by simp) _).set 3 (by simp) _).set 4 (by simp) _).set 5 (by simp) _).set 6 (by simp) _).set 7 (by simp) _).set 8 (by simp) _).set 9 (by simp) _), ((((((((Grn.refl.setCell _ _).setCell _ _).setCell _ _).setCell _ _).setCell _ _).setCell _ _).setCell _ _).setCell _ _)⟩
theorem st8w {w : World} {b : Nat} {v0 v1 v2 v3 v4 v5 v6 v7 : Value} (h : Blk w b [v0, v1, v2, v3, v4, v5, v6, v7]) (x0 x1 x2 x3 x4 x5 x6 x7 : Value) :
 ∃ W, ((((((((w.setCell ⟨b, 0, none⟩ x0).setCell ⟨b, 1, none⟩ x1).setCell ⟨b, 2, none⟩ x2).setCell ⟨b, 3, none⟩ x3).setCell ⟨b, 4, none⟩ x4).setCell ⟨b, 5, none⟩ x5).setCell ⟨b, 6, none⟩ x6).setCell ⟨b, 7, none⟩ x7) = W ∧ Blk W b [x0, x1, x2, x3, x4, x5, x6, x7] ∧ Grn b w W := ⟨_, rfl, ((((((((h.set 0 (by simp) _).set 1 (by simp) _).set 2 (by simp) _).set 3 (by simp) _).set 4 (by simp) _).set 5 (by simp) _).set 6 (by simp) _).set 7 (by simp) _), ((((((((Grn.refl.setCell _ _).setCell _ _).setCell _ _).setCell _ _).setCell _ _).setCell _ _).setCell _ _).setCell _ _)⟩
theorem Blk.at11 {w : World} {b : Nat} {x0 x1 x2 x3 x4 x5 x6 x7 x8 x9 x10 : Value} (h : Blk w b [x0, x1, x2, x3, x4, x5, x6, x7, x8, x9, x10]) : w.cell? ⟨b, 0, none⟩ = some x0 ∧ w.cell? ⟨b, 1, none⟩ = some x1 ∧ w.cell? ⟨b, 2, none⟩ = some x2 ∧ w.cell? ⟨b, 3, none⟩ = some x3 ∧ w.cell? ⟨b, 4, none⟩ = some x4 ∧ w.cell? ⟨b, 5, none⟩ = some x5 ∧ w.cell? ⟨b, 6, none⟩ = some x6 ∧ w.cell? ⟨b, 7, none⟩ = some x7 ∧ w.cell? ⟨b, 8, none⟩ = some x8 ∧ w.cell? ⟨b, 9, none⟩ = some x9 ∧ w.cell? ⟨b, 10, none⟩ = some x10 :=
 ⟨h.2.2 0 _ rfl, h.2.2 1 _ rfl, h.2.2 2 _ rfl, h.2.2 3 _ rfl, h.2.2 4 _ rfl, h.2.2 5 _ rfl, h.2.2 6 _ rfl, h.2.2 7 _ rfl, h.2.2 8 _ rfl, h.2.2 9 _ rfl, h.2.2 10 _ rfl⟩
set_option maxRecDepth 100000 in
set_option maxHeartbeats 1000000 in
theorem told_any (T : TypeId) (c0 n0 : Value) (a0 : A8) (ga : Option Addr) (gn gc : Nat) (cv : Value) (a : A8) (d : Bool) (w : World) :
 Calls Tryz.prog 46 #[.agg (tkL c0 n0 a0 ga gn gc).toArray, .iface T cv, .agg (a8E a).toArray, .bool d] w fun e w' => e = .returned (tkV T cv a d ga gn gc) ∧ ∃ r, w' = ext w r := by
 have hen := eq_code_nil
 obtain ⟨p1, p2, ⟨p3, p4, p5⟩, p6, p7, p8⟩ := a
 go_enter Tryz.func46, Tryz.ntmps46
 go_upto_region 1 with fail
 generalize hU : World.alloc _ _ = U
 have HEU := hid (show Ext w U by rw [← hU]; exact exP)
 have HB1 := hid (show Blk U w.heap.size (tkL c0 n0 a0 ga gn gc) by rw [← hU]; exact bkP)
 have HB2 := hid (show Blk U (w.heap.size + 1) [.int .i64 p1, .int .i64 p2, .int .i64 p3, .int .u32 p4, .int .u32 p5, .int .i64 p6, .int .u32 p7, .int .u32 p8] by rw [← hU]; exact bkP)
 have HB3 := hid (show Blk U (w.heap.size + 1 + 1) Z11 by rw [← hU]; exact bkP)
 clear hU
 obtain ⟨g, hg⟩ : ∃ g, g = w.heap.size := ⟨_, rfl⟩
 have HGw := hid (show w.heap.size = g from hg.symm)
 rw [← hg] at HB1 HB2 HB3
 simp only [← hg]
 clear hg
 obtain ⟨k0, k1, k2, k3, k4, k5, k6, k7⟩ := HB2.out.eight
 have kg := HB1.out.1
 have kf := HB1.out.2.1
 have b0 := HB1.out.2.2 0 _ rfl
 have b1 := HB1.out.2.2 1 _ rfl
 have b2 := HB1.out.2.2 2 _ rfl
 have b3 := HB1.out.2.2 3 _ rfl
 have b4 := HB1.out.2.2 4 _ rfl
 have b5 := HB1.out.2.2 5 _ rfl
 have b6 := HB1.out.2.2 6 _ rfl
 have b7 := HB1.out.2.2 7 _ rfl
 have b8 := HB1.out.2.2 8 _ rfl
 have b9 := HB1.out.2.2 9 _ rfl
 have b10 := HB1.out.2.2 10 _ rfl
 have HSt := hid (show ∀ w', Grn g U w' → (fun w' => (w'.cell? ⟨g + 1, 0, none⟩ = some (.int .i64 p1) ∧ w'.cell? ⟨g + 1, 1, none⟩ = some (.int .i64 p2) ∧ w'.cell? ⟨g + 1, 2, none⟩ = some (.int .i64 p3) ∧ w'.cell? ⟨g + 1, 3, none⟩ = some (.int .u32 p4) ∧ w'.cell? ⟨g + 1, 4, none⟩ = some (.int .u32 p5) ∧ w'.cell? ⟨g + 1, 5, none⟩ = some (.int .i64 p6) ∧ w'.cell? ⟨g + 1, 6, none⟩ = some (.int .u32 p7) ∧ w'.cell? ⟨g + 1, 7, none⟩ = some (.int .u32 p8)) ∧ g < w'.heap.size) w' from fun w' G => ⟨⟨G.cell (by show g + 1 ≠ g; omega) k0, G.cell (by show g + 1 ≠ g; omega) k1, G.cell (by show g + 1 ≠ g; omega) k2, G.cell (by show g + 1 ≠ g; omega) k3, G.cell (by show g + 1 ≠ g; omega) k4, G.cell (by show g + 1 ≠ g; omega) k5, G.cell (by show g + 1 ≠ g; omega) k6, G.cell (by show g + 1 ≠ g; omega) k7⟩, Nat.lt_of_lt_of_le kg G.size⟩)
 refine wp_region_held_drew (S := fun w' => (w'.cell? ⟨g + 1, 0, none⟩ = some (.int .i64 p1) ∧ w'.cell? ⟨g + 1, 1, none⟩ = some (.int .i64 p2) ∧ w'.cell? ⟨g + 1, 2, none⟩ = some (.int .i64 p3) ∧ w'.cell? ⟨g + 1, 3, none⟩ = some (.int .u32 p4) ∧ w'.cell? ⟨g + 1, 4, none⟩ = some (.int .u32 p5) ∧ w'.cell? ⟨g + 1, 5, none⟩ = some (.int .i64 p6) ∧ w'.cell? ⟨g + 1, 6, none⟩ = some (.int .u32 p7) ∧ w'.cell? ⟨g + 1, 7, none⟩ = some (.int .u32 p8)) ∧ g < w'.heap.size) (by kernel_rfl) (by exact HSt.out _ (by exact gnP)) (fun hHeld => ?_)
 refine tkm 0 (v := ?_) rfl ?_ ?_
 rotate_left 1
 ·intro w hSw
  try dsimp only at hSw
  go_simp
  try with_reducible rfl
 (try simp only [Act.put, pA, pB, pC])
 refine tkm 1 (v := ?_) rfl ?_ ?_
 rotate_left 1
 ·intro w hSw
  try dsimp only at hSw
  go_simp
  try with_reducible rfl
 (try simp only [Act.put, pA, pB, pC])
 refine tkm 2 (v := ?_) rfl ?_ ?_
 rotate_left 1
 ·intro w hSw
  try dsimp only at hSw
  go_simp
  try with_reducible rfl
 (try simp only [Act.put, pA, pB, pC])
 refine take_only 3 (oi := ⟨_, _, _, _, _, _⟩) (by kernel_rfl) rfl (fun K hK => ?_)
 go_simp
 have hOld := hHeld
 clear hHeld
 refine hK.out _ _ (by exact HSt.out _ (by exact gnP)) (fun hHeld => ?_)
 clear hOld hK K
 (try simp only [Act.put, pA, pB, pC])
 refine tkm 4 (v := ?_) rfl ?_ ?_
 rotate_left 1
 ·intro w hSw
  try dsimp only at hSw
  go_simp
  try with_reducible rfl
 (try simp only [Act.put, pA, pB, pC])
 refine take_only 5 (oi := ⟨_, _, _, _, _, _⟩) (by kernel_rfl) rfl (fun K hK => ?_)
 go_simp
 have hOld := hHeld
 clear hHeld
 refine hK.out _ _ (by exact HSt.out _ (by exact gnP)) (fun hHeld => ?_)
 clear hOld hK K
 (try simp only [Act.put, pA, pB, pC])
 refine tkm 6 (v := ?_) rfl ?_ ?_
 rotate_left 1
 ·intro w hSw
  try dsimp only at hSw
  go_simp
  try with_reducible rfl
 (try simp only [Act.put, pA, pB, pC])
 refine take_only 7 (oi := ⟨_, _, _, _, _, _⟩) (by kernel_rfl) rfl (fun K hK => ?_)
 go_simp
 have hOld := hHeld
 clear hHeld
 refine hK.out _ _ (by exact HSt.out _ (by exact gnP)) (fun hHeld => ?_)
 clear hOld hK K
 (try simp only [Act.put, pA, pB, pC])
 refine wpAnyH_done (by kernel_rfl) ?_ _
 generalize hZ : World.setCell _ _ _ = Z
 have hG : Grn g U Z := by rw [← hZ]; exact gnP
 have HZ1 := hid (show Blk Z g (tkL (.iface T cv) .nilFunc ⟨p1, p2, (p3, p4, p5), (p6, p7, p8)⟩ ga gn gc) by
  rw [← hZ]
  exact ((((((((((HB1.out.set 0 (by simp) _).set 2 (by simp) _).set 3 (by simp) _).set 4 (by simp) _).set 5 (by simp) _).set 6 (by simp) _).set 7 (by simp) _).set 8 (by simp) _).set 9 (by simp) _).set 1 (by simp) _))
 have HZ3 := hid (HB3.out.grn hG (by omega))
 have HEZ := hid (HEU.out.grn hG (Nat.le_of_eq HGw.out))
 clear hZ hG hHeld b0 b1 b2 b3 b4 b5 b6 b7 b8 b9 b10 k0 k1 k2 k3 k4 k5 k6 k7 kg kf
 have z := HZ1.out
 have zg := z.1
 have zf := z.2.1
 have z0 := z.2.2 0 _ rfl
 have z1 := z.2.2 1 _ rfl
 have z2 := z.2.2 2 _ rfl
 have z3 := z.2.2 3 _ rfl
 have z4 := z.2.2 4 _ rfl
 have z5 := z.2.2 5 _ rfl
 have z6 := z.2.2 6 _ rfl
 have z7 := z.2.2 7 _ rfl
 have z8 := z.2.2 8 _ rfl
 have z9 := z.2.2 9 _ rfl
 have z10 := z.2.2 10 _ rfl
 have y := HZ3.out
 have yg := y.1
 have yf := y.2.1
 obtain ⟨w0, w1, w2, w3, w4, w5, w6, w7, w8, w9, w10⟩ := Blk.at11 y
 clear z y
 cases d
 ·(repeat (first | go_values | go_skip | go_guarded | go_step | go_upon | (simp only [Int.not_lt, Int.not_le] at *; go_simp) | (go_ite <;> go_prune <;> (try go_simp))))
  obtain ⟨V, hV, HV, hG2⟩ := st11 (HZ3.out.other (b' := g) (i := 1) (by omega) (.func (.method "Next") #[.iface T cv] #[])) (.iface T cv) (.func (.method "Next") #[.iface T cv] #[]) (.int .i64 p1) (.int .i64 p2) (.int .i64 p3) (.int .u32 p4) (.int .u32 p5) (.int .i64 p6) (.int .u32 p7) (.int .u32 p8) (.slice ga gn gc)
  rw [hV]
  have HEV := hid ((HEZ.out.setCell (p := ⟨g, 1, none⟩) (Nat.le_of_eq HGw.out) (.func (.method "Next") #[.iface T cv] #[])).grn hG2 (by have := HGw.out; omega))
  obtain ⟨r0, r1, r2, r3, r4, r5, r6, r7, r8, r9, r10⟩ := Blk.at11 HV
  have rg := HV.1
  exact bodyPost_ret (v := .agg #[.iface T cv, .func (.method "Next") #[.iface T cv] #[], .int .i64 p1, .int .i64 p2, .int .i64 p3, .int .u32 p4, .int .u32 p5, .int .i64 p6, .int .u32 p7, .int .u32 p8, .slice ga gn gc]) (by simp [results, Tryz.results46, go_sem, r0, r1, r2, r3, r4, r5, r6, r7, r8, r9, r10, rg]) rfl ⟨rfl, HEV.out.drew⟩
 ·(repeat (first | go_values | go_skip | go_guarded | go_step | go_upon | (simp only [Int.not_lt, Int.not_le] at *; go_simp) | (go_ite <;> go_prune <;> (try go_simp))))
  obtain ⟨V0, hV0, HV0, hG0⟩ := st8at2 HZ1.out (.int .i64 0) (.int .i64 0) (.int .i64 0) (.int .u32 0) (.int .u32 0) (.int .i64 0) (.int .u32 0) (.int .u32 0)
  rw [hV0]
  obtain ⟨V, hV, HV, hG2⟩ := st11 (HZ3.out.grn hG0 (by omega)) (.iface T cv) .nilFunc (.int .i64 0) (.int .i64 0) (.int .i64 0) (.int .u32 0) (.int .u32 0) (.int .i64 0) (.int .u32 0) (.int .u32 0) (.slice ga gn gc)
  rw [hV]
  have HEV := hid ((HEZ.out.grn hG0 (Nat.le_of_eq HGw.out)).grn hG2 (by have := HGw.out; omega))
  obtain ⟨r0, r1, r2, r3, r4, r5, r6, r7, r8, r9, r10⟩ := Blk.at11 HV
  have rg := HV.1
  exact bodyPost_ret (v := .agg #[.iface T cv, .nilFunc, .int .i64 0, .int .i64 0, .int .i64 0, .int .u32 0, .int .u32 0, .int .i64 0, .int .u32 0, .int .u32 0, .slice ga gn gc]) (by simp [results, Tryz.results46, go_sem, r0, r1, r2, r3, r4, r5, r6, r7, r8, r9, r10, rg]) rfl ⟨rfl, HEV.out.drew⟩
theorem told_no (T : TypeId) (c0 n0 : Value) (a0 : A8) (ga : Option Addr) (gn gc : Nat) (cv : Value) (p1 p2 p3 p4 p5 p6 p7 p8 : Int) (w : World) :
 Calls Tryz.prog 46 #[.agg (tkL c0 n0 a0 ga gn gc).toArray, .iface T cv, .agg #[.int .i64 p1, .int .i64 p2, .int .i64 p3, .int .u32 p4, .int .u32 p5, .int .i64 p6, .int .u32 p7, .int .u32 p8], .bool false] w fun e w' => e = .returned (.agg #[.iface T cv, .func (.method "Next") #[.iface T cv] #[], .int .i64 p1, .int .i64 p2, .int .i64 p3, .int .u32 p4, .int .u32 p5, .int .i64 p6, .int .u32 p7, .int .u32 p8, .slice ga gn gc]) ∧ ∃ r, w' = ext w r :=
 told_any T c0 n0 a0 ga gn gc cv ⟨p1, p2, (p3, p4, p5), (p6, p7, p8)⟩ false w
theorem told_yes (T : TypeId) (c0 n0 : Value) (a0 : A8) (ga : Option Addr) (gn gc : Nat) (cv : Value) (p1 p2 p3 p4 p5 p6 p7 p8 : Int) (w : World) :
 Calls Tryz.prog 46 #[.agg (tkL c0 n0 a0 ga gn gc).toArray, .iface T cv, .agg #[.int .i64 p1, .int .i64 p2, .int .i64 p3, .int .u32 p4, .int .u32 p5, .int .i64 p6, .int .u32 p7, .int .u32 p8], .bool true] w fun e w' => e = .returned (.agg #[.iface T cv, .nilFunc, .int .i64 0, .int .i64 0, .int .i64 0, .int .u32 0, .int .u32 0, .int .i64 0, .int .u32 0, .int .u32 0, .slice ga gn gc]) ∧ ∃ r, w' = ext w r :=
 told_any T c0 n0 a0 ga gn gc cv ⟨p1, p2, (p3, p4, p5), (p6, p7, p8)⟩ true w
theorem eql_nilfunc (w : World) : (binOp .eql 51 .nilFunc .nilFunc).run Tryz.prog w = .ok (.bool true) w := by kernel_rfl
theorem eql_func (fn : Fn) (f c : Array Value) (w : World) : (binOp .eql 51 (.func fn f c) .nilFunc).run Tryz.prog w = .ok (.bool false) w := by kernel_rfl
theorem tdone_any (c0 n0 : Value) (d : Bool) (hn : (d = true ∧ n0 = .nilFunc) ∨ (d = false ∧ ∃ f x y, n0 = .func f x y)) (a : A8) (ga : Option Addr) (gn gc : Nat) (w : World) :
 Calls Tryz.prog 47 #[.agg (tkL c0 n0 a ga gn gc).toArray] w fun e w' => e = .returned (.bool d) ∧ ∃ r, w' = ext w r := by
 have h1 := eql_nilfunc
 have h2 := eql_func
 go_enter Tryz.func47, Tryz.ntmps47
 rcases hn with ⟨rfl, rfl⟩ | ⟨rfl, f, x, y, rfl⟩
 ·go_wp2_with fail
  go_ret
  exact ⟨rfl, by exact exP⟩
 ·go_wp2_with fail
  go_ret
  exact ⟨rfl, by exact exP⟩
theorem tcode_any (c0 n0 : Value) (a : A8) (ga : Option Addr) (gn gc : Nat) (w : World) :
 Calls Tryz.prog 14 #[.agg (tkL c0 n0 a ga gn gc).toArray] w fun e w' => e = .returned c0 ∧ ∃ r, w' = ext w r := by
 go_enter Tryz.func14, Tryz.ntmps14
 go_wp2_with fail
 go_ret
 exact ⟨rfl, by exact exP⟩
set_option maxRecDepth 100000 in
set_option maxHeartbeats 1000000 in
theorem tact_any (c0 n0 : Value) (d : Bool) (hn : (d = true ∧ n0 = .nilFunc) ∨ (d = false ∧ ∃ f x y, n0 = .func f x y)) (a : A8) (ga : Option Addr) (gn gc : Nat) (w : World) :
 Calls Tryz.prog 12 #[.agg (tkL c0 n0 a ga gn gc).toArray] w fun e w' => e = .returned (.tuple #[.agg (a8E a).toArray, .bool (!d)]) ∧ ∃ r, w' = ext w r := by
 have HNx := hid hn
 clear hn
 obtain ⟨p1, p2, ⟨p3, p4, p5⟩, p6, p7, p8⟩ := a
 go_enter Tryz.func12, Tryz.ntmps12
 go_upto_region 1 with fail
 generalize hU : World.alloc _ _ = U
 have HEU := hid (show Ext w U by rw [← hU]; exact exP)
 have HB1 := hid (show Blk U w.heap.size (tkL c0 n0 ⟨p1, p2, (p3, p4, p5), (p6, p7, p8)⟩ ga gn gc) by rw [← hU]; exact bkP)
 have HB2 := hid (show Blk U (w.heap.size + 1) [.int .i64 0, .int .i64 0, .int .i64 0, .int .u32 0, .int .u32 0, .int .i64 0, .int .u32 0, .int .u32 0] by rw [← hU]; exact bkP)
 clear hU
 obtain ⟨g, hg⟩ : ∃ g, g = w.heap.size := ⟨_, rfl⟩
 have HGw := hid (show w.heap.size = g from hg.symm)
 rw [← hg] at HB1 HB2
 simp only [← hg]
 clear hg
 have kg := HB1.out.1
 obtain ⟨k0, k1, k2, k3, k4, k5, k6, k7, k8, k9, k10⟩ := Blk.at11 HB1.out
 have HSt := hid (show ∀ w', Grn (g + 1) U w' → (fun w' => ((w'.cell? ⟨g, 0, none⟩ = some c0 ∧ w'.cell? ⟨g, 1, none⟩ = some n0 ∧ w'.cell? ⟨g, 2, none⟩ = some (.int .i64 p1) ∧ w'.cell? ⟨g, 3, none⟩ = some (.int .i64 p2) ∧ w'.cell? ⟨g, 4, none⟩ = some (.int .i64 p3) ∧ w'.cell? ⟨g, 5, none⟩ = some (.int .u32 p4)) ∧ (w'.cell? ⟨g, 6, none⟩ = some (.int .u32 p5) ∧ w'.cell? ⟨g, 7, none⟩ = some (.int .i64 p6) ∧ w'.cell? ⟨g, 8, none⟩ = some (.int .u32 p7) ∧ w'.cell? ⟨g, 9, none⟩ = some (.int .u32 p8) ∧ w'.cell? ⟨g, 10, none⟩ = some (.slice ga gn gc))) ∧ g < w'.heap.size) w' from fun w' G => ⟨⟨⟨G.cell (by show g ≠ g + 1; omega) k0, G.cell (by show g ≠ g + 1; omega) k1, G.cell (by show g ≠ g + 1; omega) k2, G.cell (by show g ≠ g + 1; omega) k3, G.cell (by show g ≠ g + 1; omega) k4, G.cell (by show g ≠ g + 1; omega) k5⟩, G.cell (by show g ≠ g + 1; omega) k6, G.cell (by show g ≠ g + 1; omega) k7, G.cell (by show g ≠ g + 1; omega) k8, G.cell (by show g ≠ g + 1; omega) k9, G.cell (by show g ≠ g + 1; omega) k10⟩, Nat.lt_of_lt_of_le kg G.size⟩)
 have rf := HB2.out.2.1
 obtain ⟨w0, w1, w2, w3, w4, w5, w6, w7⟩ := HB2.out.eight
 have rg := HB2.out.1
 refine wp_region_held_drew (S := fun w' => ((w'.cell? ⟨g, 0, none⟩ = some c0 ∧ w'.cell? ⟨g, 1, none⟩ = some n0 ∧ w'.cell? ⟨g, 2, none⟩ = some (.int .i64 p1) ∧ w'.cell? ⟨g, 3, none⟩ = some (.int .i64 p2) ∧ w'.cell? ⟨g, 4, none⟩ = some (.int .i64 p3) ∧ w'.cell? ⟨g, 5, none⟩ = some (.int .u32 p4)) ∧ (w'.cell? ⟨g, 6, none⟩ = some (.int .u32 p5) ∧ w'.cell? ⟨g, 7, none⟩ = some (.int .i64 p6) ∧ w'.cell? ⟨g, 8, none⟩ = some (.int .u32 p7) ∧ w'.cell? ⟨g, 9, none⟩ = some (.int .u32 p8) ∧ w'.cell? ⟨g, 10, none⟩ = some (.slice ga gn gc))) ∧ g < w'.heap.size) (by kernel_rfl) (by exact HSt.out _ (by exact gnP)) (fun hHeld => ?_)
 refine tkm 0 (v := ?_) rfl ?_ ?_
 rotate_left 1
 ·intro w hSw
  try dsimp only at hSw
  go_simp
  try with_reducible rfl
 (try simp only [Act.put, pA, pB, pC])
 refine tkm 1 (v := ?_) rfl ?_ ?_
 rotate_left 1
 ·intro w hSw
  try dsimp only at hSw
  go_simp
  try with_reducible rfl
 (try simp only [Act.put, pA, pB, pC])
 refine tkm 2 (v := ?_) rfl ?_ ?_
 rotate_left 1
 ·intro w hSw
  try dsimp only at hSw
  go_simp
  try with_reducible rfl
 (try simp only [Act.put, pA, pB, pC])
 refine take_only 3 (oi := ⟨_, _, _, _, _, _⟩) (by kernel_rfl) rfl (fun K hK => ?_)
 go_simp
 first
  | (go_at_call 47; refine (tdone_any c0 n0 d HNx.out ⟨p1, p2, (p3, p4, p5), (p6, p7, p8)⟩ ga gn gc _).mono ?_; rintro e w' ⟨rfl, r2, rfl⟩)
 have hOld := hHeld
 clear hHeld
 refine hK.out _ _ (by exact HSt.out _ (by exact gnP)) (fun hHeld => ?_)
 clear hOld hK K
 (try simp only [Act.put, pA, pB, pC])
 refine tkm 4 (v := ?_) rfl ?_ ?_
 rotate_left 1
 ·intro w hSw
  try dsimp only at hSw
  go_simp
  try with_reducible rfl
 (try simp only [Act.put, pA, pB, pC])
 refine take_only 5 (oi := ⟨_, _, _, _, _, _⟩) (by kernel_rfl) rfl (fun K hK => ?_)
 go_simp
 have hOld := hHeld
 clear hHeld
 refine hK.out _ _ (by exact HSt.out _ (by exact gnP)) (fun hHeld => ?_)
 clear hOld hK K
 (try simp only [Act.put, pA, pB, pC])
 refine tkm 6 (v := ?_) rfl ?_ ?_
 rotate_left 1
 ·intro w hSw
  try dsimp only at hSw
  go_simp
  try with_reducible rfl
 (try simp only [Act.put, pA, pB, pC])
 refine wpAnyH_done (by kernel_rfl) ?_ _
 (repeat (first | go_values | go_skip | go_guarded | go_step | go_upon | (simp only [Int.not_lt, Int.not_le] at *; go_simp) | (go_ite <;> go_prune <;> (try go_simp))))
 obtain ⟨V, hV, HV, hG2⟩ := st8w (show Blk (ext U r2) (g + 1) _ from HB2.out.ext r2) (.int .i64 p1) (.int .i64 p2) (.int .i64 p3) (.int .u32 p4) (.int .u32 p5) (.int .i64 p6) (.int .u32 p7) (.int .u32 p8)
 rw [hV]
 have HEV := hid ((HEU.out.ext r2).grn hG2 (by have := HGw.out; omega))
 obtain ⟨r0, r1, r2, r3, r4, r5, r6, r7⟩ := HV.eight
 have rg := HV.1
 exact bodyPost_ret (v := .tuple #[.agg #[.int .i64 p1, .int .i64 p2, .int .i64 p3, .int .u32 p4, .int .u32 p5, .int .i64 p6, .int .u32 p7, .int .u32 p8], .bool (!d)]) (by simp [results, Tryz.results12, go_sem, r0, r1, r2, r3, r4, r5, r6, r7, rg]) rfl ⟨rfl, by exact exP⟩
theorem gclip_any (a : Option Addr) (n c : Nat) (hn : n ≤ c) (h0 : a = none → n = 0) (w : World) : Calls Tryz.prog 48 #[.slice a n c] w fun e w' => e = .returned (.slice a n n) ∧ ∃ r, w' = ext w r := by
 cases a with
 | none =>
  obtain rfl := h0 rfl
  go_enter Tryz.func48, Tryz.ntmps48
  go_wp2_with fail
  go_ret
  exact ⟨rfl, by exact exP⟩
 | some ad =>
  go_enter Tryz.func48, Tryz.ntmps48
  go_wp2_with fail
  go_ret
  exact ⟨rfl, by exact exP⟩
def NextOk (T : TypeId) (F : FuncId) (cv : Value) (g : Gt) (w : World) (Q : Nat → Prop) (R : World → Value → A8 → Bool → Prop) : Prop :=
 ∀ W, Ext w W → Calls Tryz.prog F #[cv, .agg (gtE g).toArray] W fun e w' => ∃ cv' a d, e = .returned (.tuple #[.iface T cv', .agg (a8E a).toArray, .bool d]) ∧ Ext W w' ∧ ∀ V, Agr Q W.heap.size w' V → R V cv' a d
set_option maxRecDepth 100000 in
set_option maxHeartbeats 1000000 in
theorem tstart_any {T : TypeId} {F : FuncId} (hT : CodeT T F) (cv : Value) (w0 w : World) (hw : Ext w0 w) {Q : Nat → Prop} (hQ : ∀ b, Q b → b < w0.heap.size) {R : World → Value → A8 → Bool → Prop} (hN : NextOk T F cv ((0, 0, 0), false) w0 Q R) :
 Calls Tryz.prog 11 #[.iface T cv] w fun e w' => ∃ cv' a d, e = .returned (tkV T cv' a d none 0 0) ∧ Ext w w' ∧ ∀ V, Agr Q w.heap.size w' V → R V cv' a d := by
 have HN := hid hN
 have HW := hid hw
 have hen := eq_code_nil
 have hfi := hT.finds
 simp [go_sem] at hfi
 have hnt := hT.enters
 have h0 := hw.size
 have HQ := hid hQ
 clear hN hw hQ
 go_enter Tryz.func11, Tryz.ntmps11
 go_upto_region 1 with fail
 generalize hU : World.alloc _ _ = U
 have HEU := hid (show Ext w U by rw [← hU]; exact exP)
 have HB := hid (show Blk U w.heap.size Z11 by rw [← hU]; exact bkP)
 have HUs := hid (show U.heap.size = w.heap.size + 1 by rw [← hU]; simp)
 clear hU
 obtain ⟨g, hg⟩ : ∃ g, g = w.heap.size := ⟨_, rfl⟩
 have HGw := hid (show w.heap.size = g from hg.symm)
 rw [← hg] at HB HUs
 simp only [← hg]
 clear hg
 go_wp2_with fail
 refine (HN.out _ (HW.out.trans HEU.out)).mono ?_
 rintro e w' ⟨cv', a, d, rfl, he, hr⟩
 have HRr := hid hr
 have HEW := hid (HEU.out.trans he)
 have HB1 := hid (HB.out.of he)
 clear hr he HB
 go_wp2_with fail
 obtain ⟨p1, p2, ⟨p3, p4, p5⟩, p6, p7, p8⟩ := a
 cases d
 ·refine (told_no T .nilIface .nilFunc a8Z none 0 0 cv' p1 p2 p3 p4 p5 p6 p7 p8 _).mono ?_
  rintro e w1 ⟨rfl, r2, rfl⟩
  have HB2 := hid (HB1.out.ext r2)
  obtain ⟨x0, x1, x2, x3, x4, x5, x6, x7, x8, x9, x10⟩ := Blk.at11 HB2.out
  have xg := HB2.out.1
  have xf := HB2.out.2.1
  (repeat (first | go_values | go_skip | go_guarded | go_step | go_upon | (simp only [Int.not_lt, Int.not_le] at *; go_simp) | (go_ite <;> go_prune <;> (try go_simp))))
  obtain ⟨V, hV, HV, hG2⟩ := st11 HB2.out (.iface T cv') (.func (.method "Next") #[.iface T cv'] #[]) (.int .i64 p1) (.int .i64 p2) (.int .i64 p3) (.int .u32 p4) (.int .u32 p5) (.int .i64 p6) (.int .u32 p7) (.int .u32 p8) (.slice none 0 0)
  rw [hV]
  have HEV := hid ((HEW.out.ext r2).grn hG2 (by have := HGw.out; omega))
  have HRV := hid (show ∀ X, Agr Q w.heap.size V X → R X cv' ⟨p1, p2, (p3, p4, p5), (p6, p7, p8)⟩ false from fun X k => HRr.out X (Agr.ext ⟨r2, rfl⟩ (Agr.grn hG2 k (by have := HGw.out; have := HUs.out; omega) (fun h => by have h1 := HQ.out _ h; have h2 := HGw.out; have h3 := HW.out.size; omega) (by have := HUs.out; omega))))
  obtain ⟨r0, r1, r2, r3, r4, r5, r6, r7, r8, r9, r10⟩ := Blk.at11 HV
  have rg := HV.1
  exact bodyPost_ret (v := tkV T cv' ⟨p1, p2, (p3, p4, p5), (p6, p7, p8)⟩ false none 0 0) (by simp [results, Tryz.results11, go_sem, r0, r1, r2, r3, r4, r5, r6, r7, r8, r9, r10, rg]) rfl ⟨_, _, _, rfl, HEV.out, HRV.out⟩
 ·refine (told_yes T .nilIface .nilFunc a8Z none 0 0 cv' p1 p2 p3 p4 p5 p6 p7 p8 _).mono ?_
  rintro e w1 ⟨rfl, r2, rfl⟩
  have HB2 := hid (HB1.out.ext r2)
  obtain ⟨x0, x1, x2, x3, x4, x5, x6, x7, x8, x9, x10⟩ := Blk.at11 HB2.out
  have xg := HB2.out.1
  have xf := HB2.out.2.1
  (repeat (first | go_values | go_skip | go_guarded | go_step | go_upon | (simp only [Int.not_lt, Int.not_le] at *; go_simp) | (go_ite <;> go_prune <;> (try go_simp))))
  obtain ⟨V, hV, HV, hG2⟩ := st11 HB2.out (.iface T cv') .nilFunc (.int .i64 0) (.int .i64 0) (.int .i64 0) (.int .u32 0) (.int .u32 0) (.int .i64 0) (.int .u32 0) (.int .u32 0) (.slice none 0 0)
  rw [hV]
  have HEV := hid ((HEW.out.ext r2).grn hG2 (by have := HGw.out; omega))
  have HRV := hid (show ∀ X, Agr Q w.heap.size V X → R X cv' ⟨p1, p2, (p3, p4, p5), (p6, p7, p8)⟩ true from fun X k => HRr.out X (Agr.ext ⟨r2, rfl⟩ (Agr.grn hG2 k (by have := HGw.out; have := HUs.out; omega) (fun h => by have h1 := HQ.out _ h; have h2 := HGw.out; have h3 := HW.out.size; omega) (by have := HUs.out; omega))))
  obtain ⟨r0, r1, r2, r3, r4, r5, r6, r7, r8, r9, r10⟩ := Blk.at11 HV
  have rg := HV.1
  exact bodyPost_ret (v := tkV T cv' ⟨p1, p2, (p3, p4, p5), (p6, p7, p8)⟩ true none 0 0) (by simp [results, Tryz.results11, go_sem, r0, r1, r2, r3, r4, r5, r6, r7, r8, r9, r10, rg]) rfl ⟨_, _, _, rfl, HEV.out, HRV.out⟩
abbrev goV (T : TypeId) (cv : Value) (a : A8) (ga : Option Addr) (gn gc : Nat) : Value := .agg (tkL (.iface T cv) (.func (.method "Next") #[.iface T cv] #[]) a ga gn gc).toArray
def GivePost (T : TypeId) (w : World) (Q : Nat → Prop) (gs : List Gt) (g : Gt) (R : World → Value → A8 → Bool → Prop) (e : Ending) (w' : World) : Prop :=
 ∃ cv' a d g1 c1, e = .returned (tkV T cv' a d (some g1) (gs.length + 1) c1) ∧ Ext w w' ∧ w.heap.size ≤ g1.block ∧ ∀ V, Agr Q w.heap.size w' V → R V cv' a d ∧ Sl V 4 gtE (.slice (some g1) (gs.length + 1) c1) (gs ++ [g])
set_option maxRecDepth 100000 in
set_option maxHeartbeats 2000000 in
theorem tgive_any {T : TypeId} {F : FuncId} (hT : CodeT T F) (cv : Value) (a0 : A8) (ga : Option Addr) (gc : Nat) (gs : List Gt) (x y z : Int) (ok : Bool) (w0 w : World) (hw : Ext w0 w) (hgs : Sl w0 4 gtE (.slice ga gs.length gc) gs) (hgn : ga = none → gs = []) (hlen : gs.length ≤ 100000)
 {Q : Nat → Prop} (hQ : ∀ b, Q b → b < w0.heap.size) {R : World → Value → A8 → Bool → Prop} (hN : NextOk T F cv ((x, y, z), ok) w0 Q R) :
 Calls Tryz.prog 16 #[goV T cv a0 ga gs.length gc, .agg #[.int .i64 x, .int .u32 y, .int .u32 z, .bool ok]] w (GivePost T w Q gs ((x, y, z), ok) R) := by
 have HN := hid hN
 have HW := hid hw
 have HGs := hid hgs
 have HG0 := hid hgn
 have hfi := hT.finds
 simp [go_sem] at hfi
 have hnt := hT.enters
 have h0 := hw.size
 obtain ⟨n, hn⟩ : ∃ n, n = gs.length := ⟨_, rfl⟩
 have HNl := hid hn
 obtain ⟨q1, q2, ⟨q3, q4, q5⟩, q6, q7, q8⟩ := a0
 have hcap := hgs.capT.2
 rw [← hn] at hlen hcap HGs ⊢
 have HQ := hid hQ
 clear hN hw hgs hn hgn hQ
 go_enter Tryz.func16, Tryz.ntmps16
 go_upto_region 1 with fail
 generalize hU : World.alloc _ _ = U
 have HEU := hid (show Ext w U by rw [← hU]; exact exP)
 have HB1 := hid (show Blk U w.heap.size [.iface T cv, .func (.method "Next") #[.iface T cv] #[], .int .i64 q1, .int .i64 q2, .int .i64 q3, .int .u32 q4, .int .u32 q5, .int .i64 q6, .int .u32 q7, .int .u32 q8, .slice ga n gc] by rw [← hU]; exact bkP)
 have HB2 := hid (show Blk U (w.heap.size + 1) [.int .i64 x, .int .u32 y, .int .u32 z, .bool ok] by rw [← hU]; exact bkP)
 have HB3 := hid (show Blk U (w.heap.size + 1 + 1) Z11 by rw [← hU]; exact bkP)
 have HUs := hid (show U.heap.size = w.heap.size + 3 by rw [← hU]; simp)
 clear hU
 obtain ⟨g, hg⟩ : ∃ g, g = w.heap.size := ⟨_, rfl⟩
 have HGw := hid (show w.heap.size = g from hg.symm)
 rw [← hg] at HB1 HB2 HB3 HUs
 simp only [← hg]
 clear hg
 obtain ⟨k0, k1, k2, k3, k4, k5, k6, k7, k8, k9, k10⟩ := Blk.at11 HB1.out
 have kg := HB1.out.1
 go_wp2_with (go_call (tdone_any (.iface T cv) (.func (.method "Next") #[.iface T cv] #[]) false (.inr ⟨rfl, _, _, _, rfl⟩) ⟨q1, q2, (q3, q4, q5), q6, q7, q8⟩ ga n gc _) as e w' ⟨rfl, r1, rfl⟩)
 generalize hX : ext U r1 = X
 have HEX := hid (show Ext U X by rw [← hX]; exact ⟨r1, rfl⟩)
 have HX1 := hid (HB1.out.of HEX.out)
 have HX2 := hid (HB2.out.of HEX.out)
 have HX3 := hid (HB3.out.of HEX.out)
 clear hX k0 k1 k2 k3 k4 k5 k6 k7 k8 k9 k10 kg
 obtain ⟨k0, k1, k2, k3, k4, k5, k6, k7, k8, k9, k10⟩ := Blk.at11 HX1.out
 have kg := HX1.out.1
 have kf := HX1.out.2.1
 obtain ⟨l0, l1, l2, l3⟩ := HX2.out.four
 have HGX := hid (HGs.out.of gtE_len (HW.out.trans (HEU.out.trans HEX.out)))
 go_upto_region 4 with fail
 have HL_ := hid (fun w' (h : Ext X w') => (And.intro (Nat.lt_of_lt_of_le kg h.size) (And.intro (h.cell k10) (And.intro (h.cell l0) (And.intro (h.cell l1) (And.intro (h.cell l2) (h.cell l3)))))))
 refine wp_region_facts [11, 12, 13, 14, 15, 16] [0, 1, 2, 3, 4, 5] rfl (fun w' => Ext X w') (fsAt [IsV ?_, IsV ?_, IsV (.slice ga n n), IsV ?_, (fun v w' => ∃ q, v = .slice (some ⟨q, 0, none⟩) 1 1 ∧ Blk w' q (gtE ((x, y, z), ok))), (fun v w' => Own w' X.heap.size 50 4 gtE v (gs ++ [((x, y, z), ok)]))]) (by kernel_rfl) (by kernel_rfl) ((Ext.refl _).drew) (fun w w' h he => h.trans he) (aC (fun _ _ _ h _ => h) (aC (fun _ _ _ h _ => h) (aC (fun _ _ _ h _ => h) (aC (fun _ _ _ h _ => h) (aC (fun _ _ _ h he => by obtain ⟨q, h1, h2⟩ := h; exact ⟨q, h1, h2.of he⟩) (aC (fun _ _ _ h he => h.of_ext he) (AllOn.nil))))))) (aC ?_ (aC ?_ (aC ?_ (aC ?_ (aC ?_ (aC ?_ (AllOn.nil))))))) ?_
 rotate_left 3
 ·intro A w cx hO hD
  have e2 := evO hO 2 rfl
  clear hD hO
  refine hdV rfl ?_ rfl rfl ?_ ?_
  rotate_left 1
  ·simp [go_sem, e2, cx, HL_.out w cx]
   try with_reducible rfl
  ·exact IsV.mk (w := w)
 ·intro A w cx hO hD
  have e11 := evD (hD 0 (by kernel_rfl) 11 rfl)
  clear hD hO
  refine hdV rfl ?_ rfl rfl ?_ ?_
  rotate_left 1
  ·simp [go_sem, e11, cx, HL_.out w cx]
   try with_reducible rfl
  ·exact IsV.mk (w := w)
 ·intro A w cx hO hD
  have e12 := evD (hD 1 (by kernel_rfl) 12 rfl)
  clear hD hO
  refine hdW rfl rfl ?_
  simp [go_sem, e12]
  refine (gclip_any ga n gc hcap (fun h => by rw [HNl.out, HG0.out h]; rfl) _).mono ?_
  rintro e w' ⟨rfl, r', rfl⟩
  exact ⟨_, rfl, ⟨r', rfl⟩, rfl⟩
 ·intro A w cx hO hD
  have e3 := evO hO 3 rfl
  clear hD hO
  refine hdV rfl ?_ rfl rfl ?_ ?_
  rotate_left 1
  ·simp [go_sem, e3, cx, HL_.out w cx]
   try with_reducible rfl
  ·exact IsV.mk (w := w)
 ·intro A w cx hO hD
  have e14 := evD (hD 3 (by kernel_rfl) 14 rfl)
  clear hD hO
  refine hdW rfl rfl ?_
  simp [go_sem, e14]
  exact ⟨_, rfl, Ext.of_alloc _ _, _, rfl, Blk.new _ _ rfl rfl⟩
 ·intro A w cx hO hD
  have e13 := evD (hD 2 (by kernel_rfl) 13 rfl)
  have e15 := hD 4 (by kernel_rfl) 15 rfl
  rw [ev_tm] at e15
  clear hD hO
  refine hdW rfl rfl ?_
  obtain ⟨q, e15, hq⟩ := e15
  refine gt_clip_op _ _ rfl ((ev_tm A 13).trans e13) (show Sl _ 4 gtE (.slice ga n n) gs from by have := (HGX.out.of gtE_len cx); rw [HNl.out] at this ⊢; exact this.clipT) _ 1 1 ((ev_tm A 15).trans e15) [((x, y, z), ok)] rfl (by omega) (blk_newsT hq) (by omega) ?_
  intro v' r' hv
  exact ⟨_, rfl, ⟨r', rfl⟩, Own.mono hv cx.size⟩
 intro u wx hC hF
 obtain ⟨f0, f1, f2, f3, f4, f5, _⟩ := hF
 have g0 : u 0 = _ := f0
 have g1 : u 1 = _ := f1
 have g2 : u 2 = _ := f2
 have g3 : u 3 = _ := f3
 obtain ⟨v4, g4⟩ : ∃ v, u 4 = v := ⟨_, rfl⟩
 rw [g4] at f4
 obtain ⟨v5, g5⟩ : ∃ v, u 5 = v := ⟨_, rfl⟩
 rw [g5] at f5
 simp only [fPut, Nat.zero_add, Nat.reduceAdd, g0, g1, g2, g3, g4, g5, Act.put, List.setIfInBounds_toArray, List.set_cons_zero, List.set_cons_succ, List.length_cons, List.length_nil, List.drop_succ_cons, List.drop_zero]
 clear g0 g1 g2 g3 g4 g5 f0 f1 f2 f3
 obtain ⟨b, c1, hs, hbx, hbl⟩ := Own.openT f5 (by simp)
 rw [show (gs ++ [((x, y, z), ok)]).length = n + 1 by rw [List.length_append, ← HNl.out]; rfl] at hs
 subst hs
 have HOx := hid (Sl.of_own gtE_len f5)
 have HX := hid hC
 have HBb := hid (And.intro hbx hbl)
 have m10 := hC.cell k10
 have mg := Nat.lt_of_lt_of_le kg hC.size
 have mf := (HX1.out.of hC).2.1
 clear hC f4 f5 hbx hbl k0 k1 k2 k3 k4 k5 k6 k7 k8 k9 k10 kg kf l0 l1 l2 l3
 go_upto_region 5 with fail
 generalize hY : World.setCell _ _ _ = Y
 have hgy : Grn g wx Y := by rw [← hY]; exact Grn.refl.setCell _ _
 have HY1 := hid (show Blk Y g [.iface T cv, .func (.method "Next") #[.iface T cv] #[], .int .i64 q1, .int .i64 q2, .int .i64 q3, .int .u32 q4, .int .u32 q5, .int .i64 q6, .int .u32 q7, .int .u32 q8, .slice (some ⟨b, 0, none⟩) (n + 1) c1] by rw [← hY]; exact (HX1.out.of HX.out).set 10 (by simp) _)
 have HY2 := hid ((HX2.out.of HX.out).grn hgy (by omega))
 have HY3 := hid ((HX3.out.of HX.out).grn hgy (by omega))
 have HSY := hid (show Sl Y 4 gtE (.slice (some ⟨b, 0, none⟩) (n + 1) c1) (gs ++ [((x, y, z), ok)]) by exact Sl.grnT gtE_len HOx.out hgy (fun a m c he => by cases he; have h1 := HBb.out.1; have h2 := HUs.out; have h3 := HEX.out.size; show b ≠ g; omega))
 have HEY := hid (show Ext w Y from ((HEU.out.trans HEX.out).trans HX.out).grn hgy (by have := HGw.out; omega))
 have HBy := hid (show g + 3 ≤ b ∧ b < Y.heap.size from ⟨by have h1 := HBb.out.1; have h2 := HUs.out; have h3 := HEX.out.size; omega, Nat.lt_of_lt_of_le HBb.out.2 hgy.size⟩)
 clear hY hgy m10 mg mf HX1 HX2 HX3 HX HBb HOx HGX HB1 HB2 HB3
 obtain ⟨m0, m1, m2, m3, m4, m5, m6, m7, m8, m9, m10⟩ := Blk.at11 HY1.out
 have mg := HY1.out.1
 obtain ⟨n0, n1, n2, n3⟩ := HY2.out.four
 have HSt := hid (show ∀ w', Grn (g + 1 + 1) Y w' → (fun w' => (((w'.cell? ⟨g, 0, none⟩ = some (.iface T cv) ∧ w'.cell? ⟨g, 1, none⟩ = some (.func (.method "Next") #[.iface T cv] #[]) ∧ w'.cell? ⟨g, 2, none⟩ = some (.int .i64 q1) ∧ w'.cell? ⟨g, 3, none⟩ = some (.int .i64 q2) ∧ w'.cell? ⟨g, 4, none⟩ = some (.int .i64 q3) ∧ w'.cell? ⟨g, 5, none⟩ = some (.int .u32 q4)) ∧ (w'.cell? ⟨g, 6, none⟩ = some (.int .u32 q5) ∧ w'.cell? ⟨g, 7, none⟩ = some (.int .i64 q6) ∧ w'.cell? ⟨g, 8, none⟩ = some (.int .u32 q7) ∧ w'.cell? ⟨g, 9, none⟩ = some (.int .u32 q8) ∧ w'.cell? ⟨g, 10, none⟩ = some (.slice (some ⟨b, 0, none⟩) (n + 1) c1))) ∧ (w'.cell? ⟨g + 1, 0, none⟩ = some (.int .i64 x) ∧ w'.cell? ⟨g + 1, 1, none⟩ = some (.int .u32 y) ∧ w'.cell? ⟨g + 1, 2, none⟩ = some (.int .u32 z) ∧ w'.cell? ⟨g + 1, 3, none⟩ = some (.bool ok))) ∧ g < w'.heap.size) w' from fun w' G => ⟨⟨⟨⟨G.cell (by show g ≠ g + 1 + 1; omega) m0, G.cell (by show g ≠ g + 1 + 1; omega) m1, G.cell (by show g ≠ g + 1 + 1; omega) m2, G.cell (by show g ≠ g + 1 + 1; omega) m3, G.cell (by show g ≠ g + 1 + 1; omega) m4, G.cell (by show g ≠ g + 1 + 1; omega) m5⟩, G.cell (by show g ≠ g + 1 + 1; omega) m6, G.cell (by show g ≠ g + 1 + 1; omega) m7, G.cell (by show g ≠ g + 1 + 1; omega) m8, G.cell (by show g ≠ g + 1 + 1; omega) m9, G.cell (by show g ≠ g + 1 + 1; omega) m10⟩, G.cell (by show g + 1 ≠ g + 1 + 1; omega) n0, G.cell (by show g + 1 ≠ g + 1 + 1; omega) n1, G.cell (by show g + 1 ≠ g + 1 + 1; omega) n2, G.cell (by show g + 1 ≠ g + 1 + 1; omega) n3⟩, Nat.lt_of_lt_of_le mg G.size⟩)
 obtain ⟨w0', w1', w2', w3', w4', w5', w6', w7', w8', w9', w10'⟩ := Blk.at11 HY3.out
 have yg := HY3.out.1
 have yf := HY3.out.2.1
 refine wp_region_held_drew (S := fun w' => (((w'.cell? ⟨g, 0, none⟩ = some (.iface T cv) ∧ w'.cell? ⟨g, 1, none⟩ = some (.func (.method "Next") #[.iface T cv] #[]) ∧ w'.cell? ⟨g, 2, none⟩ = some (.int .i64 q1) ∧ w'.cell? ⟨g, 3, none⟩ = some (.int .i64 q2) ∧ w'.cell? ⟨g, 4, none⟩ = some (.int .i64 q3) ∧ w'.cell? ⟨g, 5, none⟩ = some (.int .u32 q4)) ∧ (w'.cell? ⟨g, 6, none⟩ = some (.int .u32 q5) ∧ w'.cell? ⟨g, 7, none⟩ = some (.int .i64 q6) ∧ w'.cell? ⟨g, 8, none⟩ = some (.int .u32 q7) ∧ w'.cell? ⟨g, 9, none⟩ = some (.int .u32 q8) ∧ w'.cell? ⟨g, 10, none⟩ = some (.slice (some ⟨b, 0, none⟩) (n + 1) c1))) ∧ (w'.cell? ⟨g + 1, 0, none⟩ = some (.int .i64 x) ∧ w'.cell? ⟨g + 1, 1, none⟩ = some (.int .u32 y) ∧ w'.cell? ⟨g + 1, 2, none⟩ = some (.int .u32 z) ∧ w'.cell? ⟨g + 1, 3, none⟩ = some (.bool ok))) ∧ g < w'.heap.size) (by kernel_rfl) (by exact HSt.out _ (by exact gnP)) (fun hHeld => ?_)
 refine tkm 0 (v := ?_) rfl ?_ ?_
 rotate_left 1
 ·intro w hSw
  try dsimp only at hSw
  go_simp
  try with_reducible rfl
 (try simp only [Act.put, pA, pB, pC])
 refine tkm 1 (v := ?_) rfl ?_ ?_
 rotate_left 1
 ·intro w hSw
  try dsimp only at hSw
  go_simp
  try with_reducible rfl
 (try simp only [Act.put, pA, pB, pC])
 refine tkm 2 (v := ?_) rfl ?_ ?_
 rotate_left 1
 ·intro w hSw
  try dsimp only at hSw
  go_simp
  try with_reducible rfl
 (try simp only [Act.put, pA, pB, pC])
 refine take_only 3 (oi := ⟨_, _, _, _, _, _⟩) (by kernel_rfl) rfl (fun K hK => ?_)
 go_simp
 first
  | (refine (HN.out _ (HW.out.trans (HEY.out.trans (by exact exP)))).mono ?_; rintro e w' ⟨cv', a, d, rfl, ⟨r3, rfl⟩, hr⟩; have HRr := hid hr; clear hr; obtain ⟨p1, p2, ⟨p3, p4, p5⟩, p6, p7, p8⟩ := a)
 have hOld := hHeld
 clear hHeld
 refine hK.out _ _ (by exact HSt.out _ (by exact gnP)) (fun hHeld => ?_)
 clear hOld hK K
 (try simp only [Act.put, pA, pB, pC])
 refine tkm 4 (v := ?_) rfl ?_ ?_
 rotate_left 1
 ·intro w hSw
  try dsimp only at hSw
  go_simp
  try with_reducible rfl
 (try simp only [Act.put, pA, pB, pC])
 refine tkm 5 (v := ?_) rfl ?_ ?_
 rotate_left 1
 ·intro w hSw
  try dsimp only at hSw
  go_simp
  try with_reducible rfl
 (try simp only [Act.put, pA, pB, pC])
 refine tkm 6 (v := ?_) rfl ?_ ?_
 rotate_left 1
 ·intro w hSw
  try dsimp only at hSw
  go_simp
  try with_reducible rfl
 (try simp only [Act.put, pA, pB, pC])
 refine take_only 7 (oi := ⟨_, _, _, _, _, _⟩) (by kernel_rfl) rfl (fun K hK => ?_)
 go_simp
 first
  | (go_at_call 46; refine (told_any T _ _ ⟨q1, q2, (q3, q4, q5), q6, q7, q8⟩ _ _ _ cv' ⟨p1, p2, (p3, p4, p5), p6, p7, p8⟩ d _).mono ?_; rintro e w' ⟨rfl, r4, rfl⟩; unfold tkV tkL; generalize hnv : nxV T cv' d = nv; generalize hna : (if d = true then a8Z else (⟨p1, p2, (p3, p4, p5), p6, p7, p8⟩ : A8)) = na; obtain ⟨s1, s2, ⟨s3, s4, s5⟩, s6, s7, s8⟩ := na; have hst : ∀ (a : Addr) (m : Mode) (w : World), (store a nv m).run Tryz.prog w = stored Tryz.prog w a nv m := fun a m w => run_store _ w a nv m (by rw [← hnv]; cases d <;> rfl))
 have hOld := hHeld
 clear hHeld
 refine hK.out _ _ (by exact HSt.out _ (by exact gnP)) (fun hHeld => ?_)
 clear hOld hK K
 (try simp only [Act.put, pA, pB, pC])
 refine take_only 8 (oi := ⟨_, _, _, _, _, _⟩) (by kernel_rfl) rfl (fun K hK => ?_)
 go_simp
 have hOld := hHeld
 clear hHeld
 refine hK.out _ _ (by exact HSt.out _ (by exact gnP)) (fun hHeld => ?_)
 clear hOld hK K
 (try simp only [Act.put, pA, pB, pC])
 refine wpAnyH_done (by kernel_rfl) ?_ _
 (repeat (first | go_values | go_skip | go_guarded | go_step | go_upon | (simp only [Int.not_lt, Int.not_le] at *; go_simp) | (go_ite <;> go_prune <;> (try go_simp))))
 have HB3 := hid (show Blk (ext (ext Y r3) r4) (g + 1 + 1) Z11 from (HY3.out.ext r3).ext r4)
 obtain ⟨V, hV, HV, hG2⟩ := st11 HB3.out (.iface T cv') nv (.int .i64 s1) (.int .i64 s2) (.int .i64 s3) (.int .u32 s4) (.int .u32 s5) (.int .i64 s6) (.int .u32 s7) (.int .u32 s8) (.slice (some ⟨b, 0, none⟩) (n + 1) c1)
 rw [hV]
 have HEV := hid (((HEY.out.ext r3).ext r4).grn hG2 (by have := HGw.out; omega))
 have HYs := hid HY3.out.1
 have HRV := hid (show ∀ X, Agr Q w.heap.size V X → R X cv' ⟨p1, p2, (p3, p4, p5), (p6, p7, p8)⟩ d ∧ Sl X 4 gtE (.slice (some ⟨b, 0, none⟩) (n + 1) c1) (gs ++ [((x, y, z), ok)]) from fun X k => by
  have h1 := HGw.out
  have h2 := HBy.out
  have h3 := HYs.out
  exact ⟨HRr.out X (Agr.ext ⟨r4, rfl⟩ (Agr.grn hG2 k (by show w.heap.size ≤ Y.heap.size; have := HEY.out.size; omega) (fun h => by have h4 := HQ.out _ h; have h5 := HW.out.size; omega) (by show g + 1 + 1 < Y.heap.size; omega))),
   (Sl.grnT gtE_len ((HSY.out.ext gtE_len r3).ext gtE_len r4) hG2 (fun a m c he => by cases he; show b ≠ g + 1 + 1; omega)).agr k (fun _ a m c he => by cases he; exact .inr (by show w.heap.size ≤ b; omega))⟩)
 obtain ⟨r0, r1', r2, r3', r4', r5, r6, r7, r8, r9, r10⟩ := Blk.at11 HV
 have rg := HV.1
 refine bodyPost_ret (v := .agg #[.iface T cv', nv, .int .i64 s1, .int .i64 s2, .int .i64 s3, .int .u32 s4, .int .u32 s5, .int .i64 s6, .int .u32 s7, .int .u32 s8, .slice (some ⟨b, 0, none⟩) (n + 1) c1]) (by simp [results, Tryz.results16, go_sem, r0, r1', r2, r3', r4', r5, r6, r7, r8, r9, r10, rg]) rfl ?_
 refine ⟨cv', ⟨p1, p2, (p3, p4, p5), (p6, p7, p8)⟩, d, ⟨b, 0, none⟩, c1, ?_, HEV.out, (by have h1 := HBy.out.1; have h2 := HGw.out; show w.heap.size ≤ b; omega), (by rw [← HNl.out]; exact HRV.out)⟩
 rw [← HNl.out]
 show _ = Ending.returned (.agg (tkL (.iface T cv') (nxV T cv' d) (if d = true then a8Z else (⟨p1, p2, (p3, p4, p5), p6, p7, p8⟩ : A8)) (some ⟨b, 0, none⟩) (n + 1) c1).toArray)
 rw [hnv, hna]
end Go.Proofs.YtiacdohaiidehaaGreatDoor
