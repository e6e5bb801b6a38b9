/- Walks of the recovery code's methods: last, who, store. -/
import Derived.Test.YtdpbcfjfnclpiaaDoorPk15
import Derived.Test.YtdpbcfjfnclpiaaDoorPk17
import Derived.Test.YtdpbcfjfnclpiaaDoorPk18
namespace Go.Proofs.YtdpbcfjfnclpiaaDoor
set_option linter.unusedSimpArgs false
set_option linter.unusedVariables false
open Go.RowKit
class LoC where
 P : Nat → Prop
def Sq {α : Type} (w : World) (P : Nat → Prop) (size : Nat) (enc : α → List Value) (v : Value) (l : List α) : Prop := Sl w size enc v l ∧ (l ≠ [] → ∀ a n c, v = .slice (some a) n c → P a.block)
def Sn [LoC] {α : Type} (w : World) (g : Nat) (size : Nat) (enc : α → List Value) (v : Value) (l : List α) : Prop := Sl w size enc v l ∧ (l ≠ [] → ∀ a n c, v = .slice (some a) n c → (a.block < g ∧ LoC.P a.block) ∨ g + 3 ≤ a.block)
theorem Sn.grn [LoC] {α : Type} {size : Nat} {enc : α → List Value} (henc : ∀ x, (enc x).length = size) {w w' : World} {g : Nat} {v : Value} {l : List α} (h : Sn w g size enc v l) (k : Grn g w w') : Sn w' g size enc v l := by
 refine ⟨?_, h.2⟩
 by_cases hl : l = []
 ·subst hl; obtain ⟨a, c, hv, hm, _⟩ := h.1; exact ⟨a, c, hv, hm, fun hne => absurd rfl hne⟩
 ·exact Sl.grnV henc h.1 k (fun a n c he => by have := h.2 hl a n c he; omega)
theorem Sq.sn [LoC] {α : Type} {size : Nat} {enc : α → List Value} {w : World} {v : Value} {l : List α} (h : Sq w (fun b => LoC.P b) size enc v l) : Sn w w.heap.size size enc v l := by
 obtain ⟨h, hlo⟩ := h
 refine ⟨h, fun hne a n c he => ?_⟩
 have hl := hlo hne a n c he
 obtain ⟨a', c', hv, _, hq⟩ := h
 obtain ⟨b, o, hab, hb, _⟩ := hq hne
 rw [he] at hv
 simp only [Value.slice.injEq] at hv
 rw [hab] at hv
 have := hv.1
 simp only [Option.some.injEq] at this
 rw [this] at hl ⊢; exact .inl ⟨hb, hl⟩
def acE (a : Ac) : List Value := [.int .i64 a.1, .int .i64 a.2.1, .int .i64 0, .int .u32 0, .int .u32 0, .int .i64 a.2.2.1, .int .u32 a.2.2.2.1, .int .u32 a.2.2.2.2]
theorem acE_len (a : Ac) : (acE a).length = 8 := rfl
def fdE (f : Nat × Wd) : List Value := [.int .i64 f.1, .int .i64 f.2.1, .int .u32 f.2.2.1, .int .u32 f.2.2.2]
theorem fdE_len (f : Nat × Wd) : (fdE f).length = 4 := rfl
theorem fdE_one (f : Nat × Wd) : ∀ u ∈ fdE f, u.oneCell' = true := by
 intro u hu
 simp only [fdE, List.mem_cons, List.not_mem_nil, or_false] at hu
 rcases hu with rfl | rfl | rfl | rfl <;> rfl
theorem Tryd.infoAct : (Tryd.prog.info? 46).map (fun i => (i.zero, i.size, i.bytes)) = some (some (.agg #[.int .i64 0, .int .i64 0, .int .i64 0, .int .u32 0, .int .u32 0, .int .i64 0, .int .u32 0, .int .u32 0]), 8, 48) := by kernel_rfl
theorem Tryd.infoFound : (Tryd.prog.info? 147).map (fun i => (i.zero, i.size, i.bytes)) = some (some (.agg #[.int .i64 0, .int .i64 0, .int .u32 0, .int .u32 0]), 4, 24) := by kernel_rfl
abbrev cdL (t c b : Int) (pa sa ta la aa ra fa : Option Addr) (pc sc tc lc ac rc fc : Nat) (s : CS) : List Value :=
 [.int .i64 t, .int .i64 c, .int .i64 b, .slice pa s.pl.length pc, .slice sa s.sl.length sc, .slice ta s.th.length tc, .int .i64 s.step, .int .i64 s.part, .slice la s.loads.length lc, .slice aa s.acts.length ac, .slice ra s.stored.length rc, .slice fa s.loaded.length fc, .bool s.loading, .bool s.ended]
structure Cd [LoC] (t c b : Int) (w : World) (g : Nat) (s : CS) (pa sa ta la aa ra fa : Option Addr) (pc sc tc lc ac rc fc : Nat) : Prop where
 blk : Blk w g (cdL t c b pa sa ta la aa ra fa pc sc tc lc ac rc fc s)
 pl : Sn w g 1 locE (.slice pa s.pl.length pc) s.pl
 sl : Sn w g 1 locE (.slice sa s.sl.length sc) s.sl
 th : Sn w g 1 locE (.slice ta s.th.length tc) s.th
 loads : Sn w g 1 locE (.slice la s.loads.length lc) s.loads
 acts : Sn w g 8 acE (.slice aa s.acts.length ac) s.acts
 stored : Sn w g 1 locE (.slice ra s.stored.length rc) s.stored
 loaded : Sn w g 4 fdE (.slice fa s.loaded.length fc) s.loaded
 tight : s.part = 1 ∨ s.part = 2 → lc = s.loads.length
 big : g + 3 ≤ w.heap.size
theorem ac_clip_op {o : Oper} {a : Act} {K : Act → World → Prop} {Q : Exit → Act → World → Prop} {w : World} {l : List Ac}
 (s x : Operand) (ho : o.op = .call { callee := .builtin .append, args := #[s, x], argTypes := #[78, 78] })
 {sa : Option Addr} {n : Nat} (hs : a.eval s = .slice sa n n) (hsl : Sl w 8 acE (.slice sa n n) l)
 (ad : Addr) (m c : Nat) (hx : a.eval x = .slice (some ad) m c) (news : List Ac) (hm : news.length = m) (hm0 : 0 < m)
 (hnews : ∀ (j : Nat) (u : Value), (news.flatMap acE)[j]? = some u → w.cell? (ad.add j) = some u) (hlen : n + m ≤ 1000000)
 (h : ∀ v' r, Own (ext w r) w.heap.size 46 8 acE v' (l ++ news) → K (a.put o.dst v') (ext w r)) : Oper.wp Tryd.prog o a w K Q := by
 obtain ⟨i0, hi, hz0, hz1, hz2⟩ := info_parts Tryd.infoAct
 exact app_clip_op Tryd.underlying78 hi hz0 hz1 hz2 rfl (by decide) acE_len s x ho hs hsl ad m c hx news hm hm0 hnews (by unfold maxLen; omega) (by omega) h
theorem lo_clip_op {o : Oper} {a : Act} {K : Act → World → Prop} {Q : Exit → Act → World → Prop} {w : World} {l : List Nat}
 (s x : Operand) (ho : o.op = .call { callee := .builtin .append, args := #[s, x], argTypes := #[76, 76] })
 {sa : Option Addr} {n : Nat} (hs : a.eval s = .slice sa n n) (hsl : Sl w 1 locE (.slice sa n n) l)
 (ad : Addr) (m c : Nat) (hx : a.eval x = .slice (some ad) m c) (news : List Nat) (hm : news.length = m) (hm0 : 0 < m)
 (hnews : ∀ (j : Nat) (u : Value), (news.flatMap locE)[j]? = some u → w.cell? (ad.add j) = some u) (hlen : n + m ≤ 1000000)
 (h : ∀ v' r, Own (ext w r) w.heap.size 44 1 locE v' (l ++ news) → K (a.put o.dst v') (ext w r)) : Oper.wp Tryd.prog o a w K Q := by
 obtain ⟨i0, hi, hz0, hz1, hz2⟩ := info_parts Tryd.infoLoc
 exact app_clip_op Tryd.underlying76 hi hz0 hz1 hz2 rfl (by decide) locE_len s x ho hs hsl ad m c hx news hm hm0 hnews (by unfold maxLen; omega) (by omega) h
theorem blk_news {α : Type} {enc : α → List Value} {w : World} {b : Nat} {x : α} (h : Blk w b (enc x)) : ∀ (j : Nat) (u : Value), ([x].flatMap enc)[j]? = some u → w.cell? ((⟨b, 0, none⟩ : Addr).add j) = some u := by
 intro j u hu
 have hadd : (⟨b, 0, none⟩ : Addr).add j = ⟨b, j, none⟩ := by unfold Addr.add; split <;> simp_all
 rw [hadd]
 exact h.2.2 j u (by simpa using hu)
theorem Sl.clip {α : Type} {w : World} {size : Nat} {enc : α → List Value} {l : List α} {a : Option Addr} {c : Nat} (h : Sl w size enc (.slice a l.length c) l) : Sl w size enc (.slice a l.length l.length) l := by
 have := Sl.take h l.length (Nat.le_refl _) l.length (Nat.le_refl _)
 rwa [List.take_length] at this
theorem Sl.room {α : Type} {w : World} {size : Nat} {enc : α → List Value} {l : List α} {a : Option Addr} {n c : Nat} (h : Sl w size enc (.slice a n c) l) : n = l.length ∧ l.length ≤ c ∧ l.length ≤ 9223372036854775807 := by
 obtain ⟨_, _, hv, hm, _⟩ := h
 simp only [Value.slice.injEq] at hv
 exact ⟨hv.2.1, by rw [hv.2.2]; exact hm.2, hm.1⟩
theorem Own.sn [LoC] {α : Type} {enc : α → List Value} {base : Nat} {e : TypeId} {size : Nat} {v : Value} {l : List α} {w : World} (henc : ∀ x, (enc x).length = size) (h : Own w base e size enc v l) {g : Nat} (hg : g + 3 ≤ base) : Sn w g size enc v l :=
 ⟨Sl.of_own henc h, fun _ a n c he => .inr (by have := h.bases a.block (by rw [he]; rfl); omega)⟩
set_option maxRecDepth 100000 in
set_option maxHeartbeats 1000000 in
theorem clast_any [LoC] {t c b : Int} {w : World} {g : Nat} {s : CS} {pa sa ta la aa ra fa : Option Addr} {pc sc tc lc ac rc fc : Nat} (h : Cd t c b w g s pa sa ta la aa ra fa pc sc tc lc ac rc fc)
 (k p : Nat) (x y z : Int) (hk : s.loaded.length = k + 1) (hp : s.loaded[k]? = some (p, (x, y, z))) :
 Calls Tryd.prog 103 #[.pointer (some ⟨g, 0, none⟩)] w fun e w' => e = .returned (.agg #[.int .i64 x, .int .u32 y, .int .u32 z]) ∧ ∃ r, w' = ext w r := by
 have HB := hid h.blk
 obtain ⟨hq, b0, o0, hab, hb0, hc0⟩ := Sl.at h.loaded.1 hp
 subst hab
 have p1 := hc0 1 (by omega)
 have p2 := hc0 2 (by omega)
 have p3 := hc0 3 (by omega)
 simp [fdE] at p1 p2 p3
 have l11 := HB.out.2.2 11 _ rfl
 have lg := HB.out.1
 rw [hk] at l11
 have hk4 : k + 1 ≤ 9223372036854775807 := by
  obtain ⟨_, _, hv, hm, _⟩ := h.loaded.1
  have := hm.1
  omega
 have hw1 : IntKind.i64.wrap (k : Int) = (k : Int) := IntWalk.i64_in _ (by omega)
 have hk5 : (k : Int) < (k : Int) + 1 := by omega
 clear hq hc0 hp hk h
 go_enter Tryd.func103, Tryd.ntmps103
 go_upto_region 1 with fail
 generalize hU : World.alloc _ _ = U
 have HEU := hid (show Ext w U by rw [← hU]; (show Ext _ _; repeat first | (with_reducible first | (refine xH ?_; assumption) | exact xR _ | refine xX ?_ _ | refine xA ?_ _) | refine xD ?_ | refine xN ?_ _ | exact xR _))
 have HB2 := hid (show Blk U w.heap.size [.int .i64 0, .int .u32 0, .int .u32 0] by rw [← hU]; (show Blk _ _ _; repeat first | (with_reducible first | (refine xH ?_; assumption) | refine bD ?_ | refine bX ?_ _) | (with_reducible refine bN _ _ rfl ?_; first | with_reducible rfl | (simp; done)) | (with_reducible first | refine bA ?_ _ | assumption | apply bS) | (with_reducible refine bO ?_ ?_; first | omega | (simp; omega)) | (show List.set _ _ _ = _; exact rfl) | (show _ < List.length _; simp; done)))
 clear hU
 refine wp_region_facts [3, 4, 5, 6, 7, 8, 9, 10, 11, 12, 13, 14, 15] [0, 1, 2, 3, 4, 5, 6, 7, 8, 9, 10, 11, 12] rfl (fun w' => Ext U w' ∧ (w'.cell? ⟨g, 11, none⟩ = some (.slice (some ⟨b0, o0, none⟩) (k + 1) fc) ∧ g < w'.heap.size) ∧ (w'.cell? ⟨b0, o0 + k * 4 + 1, none⟩ = some (.int .i64 x) ∧ w'.cell? ⟨b0, o0 + k * 4 + 2, none⟩ = some (.int .u32 y) ∧ w'.cell? ⟨b0, o0 + k * 4 + 3, none⟩ = some (.int .u32 z))) (fsAt [IsV ?_, IsV ?_, IsV ?_, IsV ?_, IsV ?_, IsV ?_, IsV ?_, IsV ?_, IsV ?_, IsV ?_, IsV ?_, IsV ?_, IsV ?_]) (by kernel_rfl) (by kernel_rfl) (by exact ⟨(Ext.refl _).drew, ⟨HEU.out.cell l11, Nat.lt_of_lt_of_le lg HEU.out.size⟩, HEU.out.cell p1, HEU.out.cell p2, HEU.out.cell p3⟩) (fun w w' h he => ⟨h.1.trans he, ⟨he.cell h.2.1.1, Nat.lt_of_lt_of_le h.2.1.2 he.size⟩, he.cell h.2.2.1, he.cell h.2.2.2.1, he.cell h.2.2.2.2⟩) (AllOn.cons (fun _ _ _ h _ => h) (AllOn.cons (fun _ _ _ h _ => h) (AllOn.cons (fun _ _ _ h _ => h) (AllOn.cons (fun _ _ _ h _ => h) (AllOn.cons (fun _ _ _ h _ => h) (AllOn.cons (fun _ _ _ h _ => h) (AllOn.cons (fun _ _ _ h _ => h) (AllOn.cons (fun _ _ _ h _ => h) (AllOn.cons (fun _ _ _ h _ => h) (AllOn.cons (fun _ _ _ h _ => h) (AllOn.cons (fun _ _ _ h _ => h) (AllOn.cons (fun _ _ _ h _ => h) (AllOn.cons (fun _ _ _ h _ => h) (AllOn.nil)))))))))))))) (AllOn.cons ?_ (AllOn.cons ?_ (AllOn.cons ?_ (AllOn.cons ?_ (AllOn.cons ?_ (AllOn.cons ?_ (AllOn.cons ?_ (AllOn.cons ?_ (AllOn.cons ?_ (AllOn.cons ?_ (AllOn.cons ?_ (AllOn.cons ?_ (AllOn.cons ?_ (AllOn.nil)))))))))))))) ?_
 rotate_left 13
 ·intro A w hC hO hD
  have e0 := evO hO 0 rfl
  obtain ⟨cx, ⟨c0, c1⟩, c2, c3, c4⟩ := hC
  clear hD hO
  refine head_val (o := ⟨_, _, _, _, _, _⟩) rfl ?_ rfl rfl ?_ ?_
  rotate_left 1
  ·simp [go_sem, e0, cx, c0, c1, c2, c3, c4, hw1, hk5]
   try with_reducible rfl
  ·exact IsV.mk (w := w)
 ·intro A w hC hO hD
  have e3 := evD (hD 0 (by kernel_rfl) 3 rfl)
  obtain ⟨cx, ⟨c0, c1⟩, c2, c3, c4⟩ := hC
  clear hD hO
  refine head_val (o := ⟨_, _, _, _, _, _⟩) rfl ?_ rfl rfl ?_ ?_
  rotate_left 1
  ·simp [go_sem, e3, cx, c0, c1, c2, c3, c4, hw1, hk5]
   try with_reducible rfl
  ·exact IsV.mk (w := w)
 ·intro A w hC hO hD
  have e4 := evD (hD 1 (by kernel_rfl) 4 rfl)
  obtain ⟨cx, ⟨c0, c1⟩, c2, c3, c4⟩ := hC
  clear hD hO
  refine head_val (o := ⟨_, _, _, _, _, _⟩) rfl ?_ rfl rfl ?_ ?_
  rotate_left 1
  ·simp [go_sem, e4, cx, c0, c1, c2, c3, c4, hw1, hk5]
   try with_reducible rfl
  ·exact IsV.mk (w := w)
 ·intro A w hC hO hD
  have e5 := evD (hD 2 (by kernel_rfl) 5 rfl)
  obtain ⟨cx, ⟨c0, c1⟩, c2, c3, c4⟩ := hC
  clear hD hO
  refine head_val (o := ⟨_, _, _, _, _, _⟩) rfl ?_ rfl rfl ?_ ?_
  rotate_left 1
  ·simp [go_sem, e5, cx, c0, c1, c2, c3, c4, hw1, hk5]
   try with_reducible rfl
  ·exact IsV.mk (w := w)
 ·intro A w hC hO hD
  have e0 := evO hO 0 rfl
  obtain ⟨cx, ⟨c0, c1⟩, c2, c3, c4⟩ := hC
  clear hD hO
  refine head_val (o := ⟨_, _, _, _, _, _⟩) rfl ?_ rfl rfl ?_ ?_
  rotate_left 1
  ·simp [go_sem, e0, cx, c0, c1, c2, c3, c4, hw1, hk5]
   try with_reducible rfl
  ·exact IsV.mk (w := w)
 ·intro A w hC hO hD
  have e7 := evD (hD 4 (by kernel_rfl) 7 rfl)
  obtain ⟨cx, ⟨c0, c1⟩, c2, c3, c4⟩ := hC
  clear hD hO
  refine head_val (o := ⟨_, _, _, _, _, _⟩) rfl ?_ rfl rfl ?_ ?_
  rotate_left 1
  ·simp [go_sem, e7, cx, c0, c1, c2, c3, c4, hw1, hk5]
   try with_reducible rfl
  ·exact IsV.mk (w := w)
 ·intro A w hC hO hD
  have e8 := evD (hD 5 (by kernel_rfl) 8 rfl)
  obtain ⟨cx, ⟨c0, c1⟩, c2, c3, c4⟩ := hC
  clear hD hO
  refine head_val (o := ⟨_, _, _, _, _, _⟩) rfl ?_ rfl rfl ?_ ?_
  rotate_left 1
  ·simp [go_sem, e8, cx, c0, c1, c2, c3, c4, hw1, hk5]
   try with_reducible rfl
  ·exact IsV.mk (w := w)
 ·intro A w hC hO hD
  have e9 := evD (hD 6 (by kernel_rfl) 9 rfl)
  obtain ⟨cx, ⟨c0, c1⟩, c2, c3, c4⟩ := hC
  clear hD hO
  refine head_val (o := ⟨_, _, _, _, _, _⟩) rfl ?_ rfl rfl ?_ ?_
  rotate_left 1
  ·simp [go_sem, e9, cx, c0, c1, c2, c3, c4, hw1, hk5]
   try with_reducible rfl
  ·exact IsV.mk (w := w)
 ·intro A w hC hO hD
  have e10 := evD (hD 7 (by kernel_rfl) 10 rfl)
  obtain ⟨cx, ⟨c0, c1⟩, c2, c3, c4⟩ := hC
  clear hD hO
  refine head_val (o := ⟨_, _, _, _, _, _⟩) rfl ?_ rfl rfl ?_ ?_
  rotate_left 1
  ·simp [go_sem, e10, cx, c0, c1, c2, c3, c4, hw1, hk5]
   try with_reducible rfl
  ·exact IsV.mk (w := w)
 ·intro A w hC hO hD
  have e11 := evD (hD 8 (by kernel_rfl) 11 rfl)
  obtain ⟨cx, ⟨c0, c1⟩, c2, c3, c4⟩ := hC
  clear hD hO
  refine head_val (o := ⟨_, _, _, _, _, _⟩) rfl ?_ rfl rfl ?_ ?_
  rotate_left 1
  ·simp [go_sem, e11, cx, c0, c1, c2, c3, c4, hw1, hk5]
   try with_reducible rfl
  ·exact IsV.mk (w := w)
 ·intro A w hC hO hD
  have e6 := evD (hD 3 (by kernel_rfl) 6 rfl)
  have e12 := evD (hD 9 (by kernel_rfl) 12 rfl)
  obtain ⟨cx, ⟨c0, c1⟩, c2, c3, c4⟩ := hC
  clear hD hO
  refine head_val (o := ⟨_, _, _, _, _, _⟩) rfl ?_ rfl rfl ?_ ?_
  rotate_left 1
  ·simp [go_sem, e6, e12, cx, c0, c1, c2, c3, c4, hw1, hk5]
   try with_reducible rfl
  ·exact IsV.mk (w := w)
 ·intro A w hC hO hD
  have e13 := evD (hD 10 (by kernel_rfl) 13 rfl)
  obtain ⟨cx, ⟨c0, c1⟩, c2, c3, c4⟩ := hC
  clear hD hO
  refine head_val (o := ⟨_, _, _, _, _, _⟩) rfl ?_ rfl rfl ?_ ?_
  rotate_left 1
  ·simp [go_sem, e13, cx, c0, c1, c2, c3, c4, hw1, hk5]
   try with_reducible rfl
  ·exact IsV.mk (w := w)
 ·intro A w hC hO hD
  have e14 := evD (hD 11 (by kernel_rfl) 14 rfl)
  obtain ⟨cx, ⟨c0, c1⟩, c2, c3, c4⟩ := hC
  clear hD hO
  refine head_val (o := ⟨_, _, _, _, _, _⟩) rfl ?_ rfl rfl ?_ ?_
  rotate_left 1
  ·simp [go_sem, e14, cx, c0, c1, c2, c3, c4, hw1, hk5]
   try with_reducible rfl
  ·exact IsV.mk (w := w)
 intro u wx hC hF
 obtain ⟨f0, f1, f2, f3, f4, f5, f6, f7, f8, f9, f10, f11, f12, _⟩ := hF
 have g0 : u 0 = _ := f0
 have g1 : u 1 = _ := f1
 have g2 : u 2 = _ := f2
 have g3 : u 3 = _ := f3
 have g4 : u 4 = _ := f4
 have g5 : u 5 = _ := f5
 have g6 : u 6 = _ := f6
 have g7 : u 7 = _ := f7
 have g8 : u 8 = _ := f8
 have g9 : u 9 = _ := f9
 have g10 : u 10 = _ := f10
 have g11 : u 11 = _ := f11
 have g12 : u 12 = _ := f12
 simp only [fPut, Nat.zero_add, Nat.reduceAdd, g0, g1, g2, g3, g4, g5, g6, g7, g8, g9, g10, g11, g12, Act.put, List.setIfInBounds_toArray, List.set_cons_zero, List.set_cons_succ, List.length_cons, List.length_nil, List.drop_succ_cons, List.drop_zero]
 clear g0 g1 g2 g3 g4 g5 g6 g7 g8 g9 g10 g11 g12 f0 f1 f2 f3 f4 f5 f6 f7 f8 f9 f10 f11 f12
 have hx := hC.1
 have HB3 := HB2.out.of hx
 obtain ⟨q0, q1, q2⟩ := HB3.three
 have q3 := HB3.2.1 0
 have q4 := HB3.2.1 1
 have q5 := HB3.2.1 2
 have q6 := HB3.1
 have HX := hid (HEU.out.trans hx)
 clear hx HB3 hC
 (repeat (first | go_values | go_skip | go_guarded | go_step | go_upon | (simp only [Int.not_lt, Int.not_le] at *; go_simp) | (go_ite <;> go_prune <;> (try go_simp))))
 exact bodyPost_ret (v := .agg #[.int .i64 x, .int .u32 y, .int .u32 z]) (by simp [results, Tryd.results103, go_sem, q0, q1, q2, q6]) rfl ⟨rfl, by (show Ext _ _; repeat with_reducible first | (refine xH ?_; assumption) | exact xR _ | refine xX ?_ _ | refine xA ?_ _ | refine xD ?_ | refine xS ?_ (by (try dsimp only); first | omega | (simp; done) | (simp; omega)) _)⟩
def cwB (z who at_ : Int) : Bool := decide (z ≠ 0) && (decide (0 < who) && decide (0 ≤ at_))
set_option maxHeartbeats 1000000 in
theorem cwho_any [LoC] {t c b : Int} {w : World} {g : Nat} {s : CS} {pa sa ta la aa ra fa : Option Addr} {pc sc tc lc ac rc fc : Nat} (h : Cd t c b w g s pa sa ta la aa ra fa pc sc tc lc ac rc fc)
 (x y z : Int) (hz0 : 0 ≤ z) (hz1 : z ≤ 4294967295) (hs : Szs w) :
 Calls Tryd.prog 102 #[.pointer (some ⟨g, 0, none⟩), .agg #[.int .i64 x, .int .u32 y, .int .u32 z]] w
  fun e w' => e = .returned (.tuple #[.int .i64 (placeN t c b (whoN z).1).1, .int .i64 (placeN t c b (whoN z).1).2, .bool (cwB z (whoN z).1 (placeN t c b (whoN z).1).1)]) ∧ ∃ r, w' = ext w r := by
 have HS := hid hs
 have HB := hid h.blk
 obtain ⟨l0, l1, l2⟩ : w.cell? ⟨g, 0, none⟩ = some (.int .i64 t) ∧ w.cell? ⟨g, 1, none⟩ = some (.int .i64 c) ∧ w.cell? ⟨g, 2, none⟩ = some (.int .i64 b) := ⟨HB.out.2.2 0 _ rfl, HB.out.2.2 1 _ rfl, HB.out.2.2 2 _ rfl⟩
 have lg := HB.out.1
 have hwb : -9223372036854775808 ≤ (whoN z).1 ∧ (whoN z).1 ≤ 9223372036854775807 := by unfold whoN; split <;> (dsimp only; omega)
 obtain ⟨who, hwho⟩ : ∃ k, k = (whoN z).1 := ⟨_, rfl⟩
 obtain ⟨at_, hat⟩ : ∃ k, k = (placeN t c b who).1 := ⟨_, rfl⟩
 obtain ⟨most, hmost⟩ : ∃ k, k = (placeN t c b who).2 := ⟨_, rfl⟩
 rw [← hwho] at hwb ⊢
 rw [← hat, ← hmost]
 have HWh := hid hwho.symm
 have HAt := hid hat.symm
 have HMo := hid hmost.symm
 clear hwho hat hmost h hs
 by_cases h1 : z = 0
 ·have hb1 : (z != 0) = false := by simpa using h1
  have HR := hid (show cwB z who at_ = false by unfold cwB; simp [h1])
  clear h1
  go_enter Tryd.func102, Tryd.ntmps102
  go_wp2_with fail
  refine (who_any z hz0 hz1 _).mono ?_
  rintro e w' ⟨rfl, r1, rfl⟩
  rw [HWh.out]
  go_wp2_with fail
  refine (place_any t c b who hwb.1 hwb.2 _ (HS.out.of (by (show Ext _ _; repeat first | (with_reducible first | (refine xH ?_; assumption) | exact xR _ | refine xX ?_ _ | refine xA ?_ _) | refine xD ?_ | refine xN ?_ _ | exact xR _)))).mono ?_
  rintro e w' ⟨rfl, r2, rfl⟩
  rw [HAt.out, HMo.out]
  go_wp2_with fail
  go_ret3
  exact ⟨congrArg (fun q : Bool => Ending.returned (.tuple #[.int .i64 at_, .int .i64 most, .bool q])) HR.out.symm, by (show Ext _ _; repeat first | (with_reducible first | (refine xH ?_; assumption) | exact xR _ | refine xX ?_ _ | refine xA ?_ _) | refine xD ?_ | refine xN ?_ _ | exact xR _)⟩
 have hb1 : (z != 0) = true := by simpa using h1
 by_cases h2 : 0 < who
 ·have HR := hid (show cwB z who at_ = decide (0 ≤ at_) by unfold cwB; simp [h1, h2])
  clear h1
  go_enter Tryd.func102, Tryd.ntmps102
  go_wp2_with fail
  refine (who_any z hz0 hz1 _).mono ?_
  rintro e w' ⟨rfl, r1, rfl⟩
  rw [HWh.out]
  go_wp2_with fail
  refine (place_any t c b who hwb.1 hwb.2 _ (HS.out.of (by (show Ext _ _; repeat first | (with_reducible first | (refine xH ?_; assumption) | exact xR _ | refine xX ?_ _ | refine xA ?_ _) | refine xD ?_ | refine xN ?_ _ | exact xR _)))).mono ?_
  rintro e w' ⟨rfl, r2, rfl⟩
  rw [HAt.out, HMo.out]
  go_wp2_with fail
  go_ret3
  exact ⟨congrArg (fun q : Bool => Ending.returned (.tuple #[.int .i64 at_, .int .i64 most, .bool q])) HR.out.symm, by (show Ext _ _; repeat first | (with_reducible first | (refine xH ?_; assumption) | exact xR _ | refine xX ?_ _ | refine xA ?_ _) | refine xD ?_ | refine xN ?_ _ | exact xR _)⟩
 ·have HR := hid (show cwB z who at_ = false by unfold cwB; simp [h2])
  clear h1
  go_enter Tryd.func102, Tryd.ntmps102
  go_wp2_with fail
  refine (who_any z hz0 hz1 _).mono ?_
  rintro e w' ⟨rfl, r1, rfl⟩
  rw [HWh.out]
  go_wp2_with fail
  refine (place_any t c b who hwb.1 hwb.2 _ (HS.out.of (by (show Ext _ _; repeat first | (with_reducible first | (refine xH ?_; assumption) | exact xR _ | refine xX ?_ _ | refine xA ?_ _) | refine xD ?_ | refine xN ?_ _ | exact xR _)))).mono ?_
  rintro e w' ⟨rfl, r2, rfl⟩
  rw [HAt.out, HMo.out]
  go_wp2_with fail
  go_ret3
  exact ⟨congrArg (fun q : Bool => Ending.returned (.tuple #[.int .i64 at_, .int .i64 most, .bool q])) HR.out.symm, by (show Ext _ _; repeat first | (with_reducible first | (refine xH ?_; assumption) | exact xR _ | refine xX ?_ _ | refine xA ?_ _) | refine xD ?_ | refine xN ?_ _ | exact xR _)⟩
set_option maxRecDepth 100000 in
set_option maxHeartbeats 1000000 in
theorem cstore_any [LoC] {t c b : Int} {w : World} {g : Nat} {s : CS} {pa sa ta la aa ra fa : Option Addr} {pc sc tc lc ac rc fc : Nat} (h : Cd t c b w g s pa sa ta la aa ra fa pc sc tc lc ac rc fc)
 (p : Nat) (x y z : Int) (hb1 : s.acts.length ≤ 100000) (hb2 : s.stored.length ≤ 100000) :
 Calls Tryd.prog 104 #[.pointer (some ⟨g, 0, none⟩), .int .i64 p, .agg #[.int .i64 x, .int .u32 y, .int .u32 z]] w
  fun e w' => e = .returned (.tuple #[]) ∧ (∃ aa' ac' ra' rc', Cd t c b w' g (cStore s p (x, y, z)) pa sa ta la aa' ra' fa pc sc tc lc ac' rc' fc) ∧ Grn g w w' := by
 have HH := hid h
 have lg := h.blk.1
 have l9 := h.blk.2.2 9 _ rfl
 have l10 := h.blk.2.2 10 _ rfl
 have HA := hid (h.acts.1.clip)
 have HR := hid (h.stored.1.clip)
 have HRb := hid (show s.stored ≠ [] → ∀ a n c, Value.slice ra s.stored.length s.stored.length = .slice (some a) n c → (a.block < g ∧ LoC.P a.block) ∨ g + 3 ≤ a.block from fun hne a n c he => by simp only [Value.slice.injEq] at he; exact h.stored.2 hne a _ _ (by rw [he.1]))
 have ha1 := h.acts.1.room.2
 have hr1 := h.stored.1.room.2
 obtain ⟨n, hn⟩ : ∃ n, n = s.acts.length := ⟨_, rfl⟩
 obtain ⟨m, hm⟩ : ∃ m, m = s.stored.length := ⟨_, rfl⟩
 rw [← hn] at l9 HA ha1 hb1
 rw [← hm] at l10 HR HRb hr1 hb2
 obtain ⟨hna, hn63⟩ := ha1
 obtain ⟨hmr, hm63⟩ := hr1
 have HN := hid hn
 have HM := hid hm
 clear h hn hm
 go_enter Tryd.func104, Tryd.ntmps104
 go_upto_region 1 with fail
 generalize hU : World.alloc _ _ = U
 have HEU := hid (show Ext w U by rw [← hU]; (show Ext _ _; repeat first | (with_reducible first | (refine xH ?_; assumption) | exact xR _ | refine xX ?_ _ | refine xA ?_ _) | refine xD ?_ | refine xN ?_ _ | exact xR _))
 have HB2 := hid (show Blk U w.heap.size [.int .i64 x, .int .u32 y, .int .u32 z] by rw [← hU]; (show Blk _ _ _; repeat first | (with_reducible first | (refine xH ?_; assumption) | refine bD ?_ | refine bX ?_ _) | (with_reducible refine bN _ _ rfl ?_; first | with_reducible rfl | (simp; done)) | (with_reducible first | refine bA ?_ _ | assumption | apply bS) | (with_reducible refine bO ?_ ?_; first | omega | (simp; omega)) | (show List.set _ _ _ = _; exact rfl) | (show _ < List.length _; simp; done)))
 clear hU
 refine wp_region_facts [6, 7, 8, 9, 10, 11, 12, 13, 14, 15, 16, 17, 18, 19, 20, 21, 22, 23, 24, 25, 26, 27, 28] [0, 1, 2, 3, 4, 5, 6, 7, 8, 9, 10, 11, 12, 13, 14, 15, 16, 17, 18, 19, 20, 21, 22] rfl (fun w' => Ext U w' ∧ (w'.cell? ⟨g, 9, none⟩ = some (.slice aa n ac) ∧ g < w'.heap.size) ∧ (w'.cell? ⟨w.heap.size, 0, none⟩ = some (.int .i64 x) ∧ w'.cell? ⟨w.heap.size, 1, none⟩ = some (.int .u32 y) ∧ w'.cell? ⟨w.heap.size, 2, none⟩ = some (.int .u32 z))) (fsAt [IsV ?_, IsV ?_, IsV ?_, IsV ?_, IsV ?_, IsV ?_, IsV ?_, IsV ?_, IsV ?_, IsV ?_, IsV ?_, IsV ?_, IsV ?_, IsV ?_, IsV ?_, IsV ?_, IsV ?_, IsV ?_, IsV ?_, (fun v w' => ∃ q, v = .slice (some ⟨q, 0, none⟩) 1 1 ∧ Blk w' q (acE (3, (p : Int), (x, y, z)))), (fun v w' => ∃ av cv, v = .slice av (n + 1) cv ∧ Own w' U.heap.size 46 8 acE v (s.acts ++ [(3, (p : Int), (x, y, z))])), IsV ?_, IsV ?_]) (by kernel_rfl) (by kernel_rfl) (by exact ⟨(Ext.refl _).drew, ⟨HEU.out.cell l9, Nat.lt_of_lt_of_le lg HEU.out.size⟩, HB2.out.three⟩) (fun w w' h he => ⟨h.1.trans he, ⟨he.cell h.2.1.1, Nat.lt_of_lt_of_le h.2.1.2 he.size⟩, he.cell h.2.2.1, he.cell h.2.2.2.1, he.cell h.2.2.2.2⟩) (AllOn.cons (fun _ _ _ h _ => h) (AllOn.cons (fun _ _ _ h _ => h) (AllOn.cons (fun _ _ _ h _ => h) (AllOn.cons (fun _ _ _ h _ => h) (AllOn.cons (fun _ _ _ h _ => h) (AllOn.cons (fun _ _ _ h _ => h) (AllOn.cons (fun _ _ _ h _ => h) (AllOn.cons (fun _ _ _ h _ => h) (AllOn.cons (fun _ _ _ h _ => h) (AllOn.cons (fun _ _ _ h _ => h) (AllOn.cons (fun _ _ _ h _ => h) (AllOn.cons (fun _ _ _ h _ => h) (AllOn.cons (fun _ _ _ h _ => h) (AllOn.cons (fun _ _ _ h _ => h) (AllOn.cons (fun _ _ _ h _ => h) (AllOn.cons (fun _ _ _ h _ => h) (AllOn.cons (fun _ _ _ h _ => h) (AllOn.cons (fun _ _ _ h _ => h) (AllOn.cons (fun _ _ _ h _ => h) (AllOn.cons (fun _ _ _ h he => by obtain ⟨q, h1, h2⟩ := h; exact ⟨q, h1, h2.of he⟩) (AllOn.cons (fun _ _ _ h he => by obtain ⟨q, q2, h1, h2⟩ := h; exact ⟨q, q2, h1, h2.of_ext he⟩) (AllOn.cons (fun _ _ _ h _ => h) (AllOn.cons (fun _ _ _ h _ => h) (AllOn.nil)))))))))))))))))))))))) (AllOn.cons ?_ (AllOn.cons ?_ (AllOn.cons ?_ (AllOn.cons ?_ (AllOn.cons ?_ (AllOn.cons ?_ (AllOn.cons ?_ (AllOn.cons ?_ (AllOn.cons ?_ (AllOn.cons ?_ (AllOn.cons ?_ (AllOn.cons ?_ (AllOn.cons ?_ (AllOn.cons ?_ (AllOn.cons ?_ (AllOn.cons ?_ (AllOn.cons ?_ (AllOn.cons ?_ (AllOn.cons ?_ (AllOn.cons ?_ (AllOn.cons ?_ (AllOn.cons ?_ (AllOn.cons ?_ (AllOn.nil)))))))))))))))))))))))) ?_
 rotate_left 21
 ·intro A w hC hO hD
  have e0 := evO hO 0 rfl
  obtain ⟨cx, ⟨c0, c1⟩, c2, c3, c4⟩ := hC
  clear hD hO
  refine head_val (o := ⟨_, _, _, _, _, _⟩) rfl ?_ rfl rfl ?_ ?_
  rotate_left 1
  ·simp [go_sem, e0, cx, c0, c1, c2, c3, c4, hna]
   try with_reducible rfl
  ·exact IsV.mk (w := w)
 ·intro A w hC hO hD
  have e0 := evO hO 0 rfl
  obtain ⟨cx, ⟨c0, c1⟩, c2, c3, c4⟩ := hC
  clear hD hO
  refine head_val (o := ⟨_, _, _, _, _, _⟩) rfl ?_ rfl rfl ?_ ?_
  rotate_left 1
  ·simp [go_sem, e0, cx, c0, c1, c2, c3, c4, hna]
   try with_reducible rfl
  ·exact IsV.mk (w := w)
 ·intro A w hC hO hD
  have e7 := evD (hD 1 (by kernel_rfl) 7 rfl)
  obtain ⟨cx, ⟨c0, c1⟩, c2, c3, c4⟩ := hC
  clear hD hO
  refine head_val (o := ⟨_, _, _, _, _, _⟩) rfl ?_ rfl rfl ?_ ?_
  rotate_left 1
  ·simp [go_sem, e7, cx, c0, c1, c2, c3, c4, hna]
   try with_reducible rfl
  ·exact IsV.mk (w := w)
 ·intro A w hC hO hD
  have e8 := evD (hD 2 (by kernel_rfl) 8 rfl)
  obtain ⟨cx, ⟨c0, c1⟩, c2, c3, c4⟩ := hC
  clear hD hO
  refine head_val (o := ⟨_, _, _, _, _, _⟩) rfl ?_ rfl rfl ?_ ?_
  rotate_left 1
  ·simp [go_sem, e8, cx, c0, c1, c2, c3, c4, hna]
   try with_reducible rfl
  ·exact IsV.mk (w := w)
 ·intro A w hC hO hD
  have e9 := evD (hD 3 (by kernel_rfl) 9 rfl)
  obtain ⟨cx, ⟨c0, c1⟩, c2, c3, c4⟩ := hC
  clear hD hO
  refine head_val (o := ⟨_, _, _, _, _, _⟩) rfl ?_ rfl rfl ?_ ?_
  rotate_left 1
  ·simp [go_sem, e9, cx, c0, c1, c2, c3, c4, hna]
   try with_reducible rfl
  ·exact IsV.mk (w := w)
 ·intro A w hC hO hD
  have e0 := evO hO 0 rfl
  obtain ⟨cx, ⟨c0, c1⟩, c2, c3, c4⟩ := hC
  clear hD hO
  refine head_val (o := ⟨_, _, _, _, _, _⟩) rfl ?_ rfl rfl ?_ ?_
  rotate_left 1
  ·simp [go_sem, e0, cx, c0, c1, c2, c3, c4, hna]
   try with_reducible rfl
  ·exact IsV.mk (w := w)
 ·intro A w hC hO hD
  have e11 := evD (hD 5 (by kernel_rfl) 11 rfl)
  obtain ⟨cx, ⟨c0, c1⟩, c2, c3, c4⟩ := hC
  clear hD hO
  refine head_val (o := ⟨_, _, _, _, _, _⟩) rfl ?_ rfl rfl ?_ ?_
  rotate_left 1
  ·simp [go_sem, e11, cx, c0, c1, c2, c3, c4, hna]
   try with_reducible rfl
  ·exact IsV.mk (w := w)
 ·intro A w hC hO hD
  have e12 := evD (hD 6 (by kernel_rfl) 12 rfl)
  obtain ⟨cx, ⟨c0, c1⟩, c2, c3, c4⟩ := hC
  clear hD hO
  refine head_val (o := ⟨_, _, _, _, _, _⟩) rfl ?_ rfl rfl ?_ ?_
  rotate_left 1
  ·simp [go_sem, e12, cx, c0, c1, c2, c3, c4, hna]
   try with_reducible rfl
  ·exact IsV.mk (w := w)
 ·intro A w hC hO hD
  have e13 := evD (hD 7 (by kernel_rfl) 13 rfl)
  obtain ⟨cx, ⟨c0, c1⟩, c2, c3, c4⟩ := hC
  clear hD hO
  refine head_val (o := ⟨_, _, _, _, _, _⟩) rfl ?_ rfl rfl ?_ ?_
  rotate_left 1
  ·simp [go_sem, e13, cx, c0, c1, c2, c3, c4, hna]
   try with_reducible rfl
  ·exact IsV.mk (w := w)
 ·intro A w hC hO hD
  have e14 := evD (hD 8 (by kernel_rfl) 14 rfl)
  obtain ⟨cx, ⟨c0, c1⟩, c2, c3, c4⟩ := hC
  clear hD hO
  refine head_val (o := ⟨_, _, _, _, _, _⟩) rfl ?_ rfl rfl ?_ ?_
  rotate_left 1
  ·simp [go_sem, e14, cx, c0, c1, c2, c3, c4, hna]
   try with_reducible rfl
  ·exact IsV.mk (w := w)
 ·intro A w hC hO hD
  have e0 := evO hO 0 rfl
  obtain ⟨cx, ⟨c0, c1⟩, c2, c3, c4⟩ := hC
  clear hD hO
  refine head_val (o := ⟨_, _, _, _, _, _⟩) rfl ?_ rfl rfl ?_ ?_
  rotate_left 1
  ·simp [go_sem, e0, cx, c0, c1, c2, c3, c4, hna]
   try with_reducible rfl
  ·exact IsV.mk (w := w)
 ·intro A w hC hO hD
  have e16 := evD (hD 10 (by kernel_rfl) 16 rfl)
  obtain ⟨cx, ⟨c0, c1⟩, c2, c3, c4⟩ := hC
  clear hD hO
  refine head_val (o := ⟨_, _, _, _, _, _⟩) rfl ?_ rfl rfl ?_ ?_
  rotate_left 1
  ·simp [go_sem, e16, cx, c0, c1, c2, c3, c4, hna]
   try with_reducible rfl
  ·exact IsV.mk (w := w)
 ·intro A w hC hO hD
  have e17 := evD (hD 11 (by kernel_rfl) 17 rfl)
  obtain ⟨cx, ⟨c0, c1⟩, c2, c3, c4⟩ := hC
  clear hD hO
  refine head_val (o := ⟨_, _, _, _, _, _⟩) rfl ?_ rfl rfl ?_ ?_
  rotate_left 1
  ·simp [go_sem, e17, cx, c0, c1, c2, c3, c4, hna]
   try with_reducible rfl
  ·exact IsV.mk (w := w)
 ·intro A w hC hO hD
  have e18 := evD (hD 12 (by kernel_rfl) 18 rfl)
  obtain ⟨cx, ⟨c0, c1⟩, c2, c3, c4⟩ := hC
  clear hD hO
  refine head_val (o := ⟨_, _, _, _, _, _⟩) rfl ?_ rfl rfl ?_ ?_
  rotate_left 1
  ·simp [go_sem, e18, cx, c0, c1, c2, c3, c4, hna]
   try with_reducible rfl
  ·exact IsV.mk (w := w)
 ·intro A w hC hO hD
  have e19 := evD (hD 13 (by kernel_rfl) 19 rfl)
  obtain ⟨cx, ⟨c0, c1⟩, c2, c3, c4⟩ := hC
  clear hD hO
  refine head_val (o := ⟨_, _, _, _, _, _⟩) rfl ?_ rfl rfl ?_ ?_
  rotate_left 1
  ·simp [go_sem, e19, cx, c0, c1, c2, c3, c4, hna]
   try with_reducible rfl
  ·exact IsV.mk (w := w)
 ·intro A w hC hO hD
  have e10 := evD (hD 4 (by kernel_rfl) 10 rfl)
  have e15 := evD (hD 9 (by kernel_rfl) 15 rfl)
  have e20 := evD (hD 14 (by kernel_rfl) 20 rfl)
  obtain ⟨cx, ⟨c0, c1⟩, c2, c3, c4⟩ := hC
  clear hD hO
  refine head_val (o := ⟨_, _, _, _, _, _⟩) rfl ?_ rfl rfl ?_ ?_
  rotate_left 1
  ·simp [go_sem, e10, e15, e20, cx, c0, c1, c2, c3, c4, hna]
   try with_reducible rfl
  ·exact IsV.mk (w := w)
 ·intro A w hC hO hD
  have e1 := evO hO 1 rfl
  obtain ⟨cx, ⟨c0, c1⟩, c2, c3, c4⟩ := hC
  clear hD hO
  refine head_val (o := ⟨_, _, _, _, _, _⟩) rfl ?_ rfl rfl ?_ ?_
  rotate_left 1
  ·simp [go_sem, e1, cx, c0, c1, c2, c3, c4, hna]
   try with_reducible rfl
  ·exact IsV.mk (w := w)
 ·intro A w hC hO hD
  have e5 := evO hO 5 rfl
  obtain ⟨cx, ⟨c0, c1⟩, c2, c3, c4⟩ := hC
  clear hD hO
  refine head_val (o := ⟨_, _, _, _, _, _⟩) rfl ?_ rfl rfl ?_ ?_
  rotate_left 1
  ·simp [go_sem, e5, cx, c0, c1, c2, c3, c4, hna]
   try with_reducible rfl
  ·exact IsV.mk (w := w)
 ·intro A w hC hO hD
  have e22 := evD (hD 16 (by kernel_rfl) 22 rfl)
  have e23 := evD (hD 17 (by kernel_rfl) 23 rfl)
  obtain ⟨cx, ⟨c0, c1⟩, c2, c3, c4⟩ := hC
  clear hD hO
  refine head_val (o := ⟨_, _, _, _, _, _⟩) rfl ?_ rfl rfl ?_ ?_
  rotate_left 1
  ·simp [go_sem, e22, e23, cx, c0, c1, c2, c3, c4, hna]
   try with_reducible rfl
  ·exact IsV.mk (w := w)
 ·intro A w hC hO hD
  have e24 := evD (hD 18 (by kernel_rfl) 24 rfl)
  obtain ⟨cx, ⟨c0, c1⟩, c2, c3, c4⟩ := hC
  clear hD hO
  refine head_wp (o := ⟨_, _, _, _, _, _⟩) rfl rfl ?_
  simp [go_sem, e24]
  exact ⟨_, rfl, Ext.of_alloc _ _, _, rfl, Blk.new _ _ rfl rfl⟩
 ·intro A w hC hO hD
  have e21 := evD (hD 15 (by kernel_rfl) 21 rfl)
  have e25 := hD 19 (by kernel_rfl) 25 rfl
  rw [ev_tm] at e25
  obtain ⟨cx, ⟨c0, c1⟩, c2, c3, c4⟩ := hC
  clear hD hO
  refine head_wp (o := ⟨_, _, _, _, _, _⟩) rfl rfl ?_
  obtain ⟨q, e25, hq⟩ := e25
  refine ac_clip_op _ _ rfl ((ev_tm A 21).trans e21) (HA.out.of acE_len (HEU.out.trans cx)) _ 1 1 ((ev_tm A 25).trans e25) [(3, (p : Int), (x, y, z))] rfl (by omega) (blk_news hq) (by omega) ?_
  intro v' r hown
  obtain ⟨av, cv, hsh⟩ := Own.shape hown
  exact ⟨v', rfl, ⟨r, rfl⟩, av, cv, by rw [hsh, List.length_append, ← HN.out]; rfl, Own.mono hown cx.size⟩
 ·intro A w hC hO hD
  have e6 := evD (hD 0 (by kernel_rfl) 6 rfl)
  obtain ⟨cx, ⟨c0, c1⟩, c2, c3, c4⟩ := hC
  clear hD hO
  refine head_val (o := ⟨_, _, _, _, _, _⟩) rfl ?_ rfl rfl ?_ ?_
  rotate_left 1
  ·simp [go_sem, e6, cx, c0, c1, c2, c3, c4, hna]
   try with_reducible rfl
  ·exact IsV.mk (w := w)
 ·intro A w hC hO hD
  have e27 := evD (hD 21 (by kernel_rfl) 27 rfl)
  obtain ⟨cx, ⟨c0, c1⟩, c2, c3, c4⟩ := hC
  clear hD hO
  refine head_val (o := ⟨_, _, _, _, _, _⟩) rfl ?_ rfl rfl ?_ ?_
  rotate_left 1
  ·simp [go_sem, e27, cx, c0, c1, c2, c3, c4, hna]
   try with_reducible rfl
  ·exact IsV.mk (w := w)
 intro u wx hC hF
 obtain ⟨f0, f1, f2, f3, f4, f5, f6, f7, f8, f9, f10, f11, f12, f13, f14, f15, f16, f17, f18, f19, f20, f21, f22, _⟩ := hF
 have g0 : u 0 = _ := f0
 have g1 : u 1 = _ := f1
 have g2 : u 2 = _ := f2
 have g3 : u 3 = _ := f3
 have g4 : u 4 = _ := f4
 have g5 : u 5 = _ := f5
 have g6 : u 6 = _ := f6
 have g7 : u 7 = _ := f7
 have g8 : u 8 = _ := f8
 have g9 : u 9 = _ := f9
 have g10 : u 10 = _ := f10
 have g11 : u 11 = _ := f11
 have g12 : u 12 = _ := f12
 have g13 : u 13 = _ := f13
 have g14 : u 14 = _ := f14
 have g15 : u 15 = _ := f15
 have g16 : u 16 = _ := f16
 have g17 : u 17 = _ := f17
 have g18 : u 18 = _ := f18
 obtain ⟨v19, g19⟩ : ∃ v, u 19 = v := ⟨_, rfl⟩
 rw [g19] at f19
 obtain ⟨v20, g20⟩ : ∃ v, u 20 = v := ⟨_, rfl⟩
 rw [g20] at f20
 have g21 : u 21 = _ := f21
 have g22 : u 22 = _ := f22
 simp only [fPut, Nat.zero_add, Nat.reduceAdd, g0, g1, g2, g3, g4, g5, g6, g7, g8, g9, g10, g11, g12, g13, g14, g15, g16, g17, g18, g19, g20, g21, g22, Act.put, List.setIfInBounds_toArray, List.set_cons_zero, List.set_cons_succ, List.length_cons, List.length_nil, List.drop_succ_cons, List.drop_zero]
 clear g0 g1 g2 g3 g4 g5 g6 g7 g8 g9 g10 g11 g12 g13 g14 g15 g16 g17 g18 g19 g20 g21 g22 f0 f1 f2 f3 f4 f5 f6 f7 f8 f9 f10 f11 f12 f13 f14 f15 f16 f17 f18 f21 f22
 obtain ⟨av, cv, hv20, ho20⟩ := f20
 subst hv20
 have HXx := hid (HEU.out.trans hC.1)
 have HBx := hid (HH.out.blk.of HXx.out)
 have HO := hid ho20
 have q0 := HBx.out.2.2 9 _ rfl
 have q1 := HBx.out.2.1 9
 have q2 := HBx.out.1
 have hgU : g < U.heap.size := Nat.lt_of_lt_of_le lg HEU.out.size
 have hUx := hC.1.size
 clear hC ho20 f19
 go_upto_region 2 with fail
 generalize hV : World.setCell _ _ _ = V
 have HBV := hid (show Blk V g _ by rw [← hV]; exact HBx.out.set 9 (by simp) _)
 have HGV := hid (show Grn g w V by rw [← hV]; exact (Grn.of_ext HXx.out).setCell _ _)
 have HOV := hid (show Own V U.heap.size 46 8 acE (.slice av (n + 1) cv) (s.acts ++ [(3, (p : Int), (x, y, z))]) by rw [← hV]; exact HO.out.under hgU _)
 have HUV : U.heap.size ≤ V.heap.size := by rw [← hV, World.size_setCell]; exact hUx
 clear hV q0 q1 q2 HBx HO HXx
 have r0 := HBV.out.2.2 10 _ rfl
 rw [← HM.out] at r0
 have rg := HBV.out.1
 refine wp_region_facts [29, 30, 31, 32, 33, 34, 35, 36, 37, 38, 39, 40, 41, 42, 43, 44, 45, 46, 47, 48, 49] [0, 1, 2, 3, 4, 5, 6, 7, 8, 9, 10, 11, 12, 13, 14, 15, 16, 17, 18, 19, 20] rfl (fun w' => Ext V w' ∧ (w'.cell? ⟨g, 10, none⟩ = some (.slice ra m rc) ∧ g < w'.heap.size)) (fsAt [IsV ?_, IsV ?_, IsV ?_, IsV ?_, IsV ?_, IsV ?_, IsV ?_, IsV ?_, IsV ?_, IsV ?_, IsV ?_, IsV ?_, IsV ?_, IsV ?_, IsV ?_, IsV ?_, IsV ?_, (fun v w' => ∃ q, v = .slice (some ⟨q, 0, none⟩) 1 1 ∧ Blk w' q (locE p)), (fun v w' => ∃ av cv, v = .slice av (m + 1) cv ∧ Own w' V.heap.size 44 1 locE v (s.stored ++ [p])), IsV ?_, IsV ?_]) (by kernel_rfl) (by kernel_rfl) (by exact ⟨(Ext.refl _).drew, r0, rg⟩) (fun w w' h he => ⟨h.1.trans he, he.cell h.2.1, Nat.lt_of_lt_of_le h.2.2 he.size⟩) (AllOn.cons (fun _ _ _ h _ => h) (AllOn.cons (fun _ _ _ h _ => h) (AllOn.cons (fun _ _ _ h _ => h) (AllOn.cons (fun _ _ _ h _ => h) (AllOn.cons (fun _ _ _ h _ => h) (AllOn.cons (fun _ _ _ h _ => h) (AllOn.cons (fun _ _ _ h _ => h) (AllOn.cons (fun _ _ _ h _ => h) (AllOn.cons (fun _ _ _ h _ => h) (AllOn.cons (fun _ _ _ h _ => h) (AllOn.cons (fun _ _ _ h _ => h) (AllOn.cons (fun _ _ _ h _ => h) (AllOn.cons (fun _ _ _ h _ => h) (AllOn.cons (fun _ _ _ h _ => h) (AllOn.cons (fun _ _ _ h _ => h) (AllOn.cons (fun _ _ _ h _ => h) (AllOn.cons (fun _ _ _ h _ => h) (AllOn.cons (fun _ _ _ h he => by obtain ⟨q, h1, h2⟩ := h; exact ⟨q, h1, h2.of he⟩) (AllOn.cons (fun _ _ _ h he => by obtain ⟨q, q2, h1, h2⟩ := h; exact ⟨q, q2, h1, h2.of_ext he⟩) (AllOn.cons (fun _ _ _ h _ => h) (AllOn.cons (fun _ _ _ h _ => h) (AllOn.nil)))))))))))))))))))))) (AllOn.cons ?_ (AllOn.cons ?_ (AllOn.cons ?_ (AllOn.cons ?_ (AllOn.cons ?_ (AllOn.cons ?_ (AllOn.cons ?_ (AllOn.cons ?_ (AllOn.cons ?_ (AllOn.cons ?_ (AllOn.cons ?_ (AllOn.cons ?_ (AllOn.cons ?_ (AllOn.cons ?_ (AllOn.cons ?_ (AllOn.cons ?_ (AllOn.cons ?_ (AllOn.cons ?_ (AllOn.cons ?_ (AllOn.cons ?_ (AllOn.cons ?_ (AllOn.nil)))))))))))))))))))))) ?_
 rotate_left 19
 ·intro A w hC hO hD
  have e0 := evO hO 0 rfl
  obtain ⟨cx, c0, c1⟩ := hC
  clear hD hO
  refine head_val (o := ⟨_, _, _, _, _, _⟩) rfl ?_ rfl rfl ?_ ?_
  rotate_left 1
  ·simp [go_sem, e0, cx, c0, c1, hmr]
   try with_reducible rfl
  ·exact IsV.mk (w := w)
 ·intro A w hC hO hD
  have e0 := evO hO 0 rfl
  obtain ⟨cx, c0, c1⟩ := hC
  clear hD hO
  refine head_val (o := ⟨_, _, _, _, _, _⟩) rfl ?_ rfl rfl ?_ ?_
  rotate_left 1
  ·simp [go_sem, e0, cx, c0, c1, hmr]
   try with_reducible rfl
  ·exact IsV.mk (w := w)
 ·intro A w hC hO hD
  have e30 := evD (hD 1 (by kernel_rfl) 30 rfl)
  obtain ⟨cx, c0, c1⟩ := hC
  clear hD hO
  refine head_val (o := ⟨_, _, _, _, _, _⟩) rfl ?_ rfl rfl ?_ ?_
  rotate_left 1
  ·simp [go_sem, e30, cx, c0, c1, hmr]
   try with_reducible rfl
  ·exact IsV.mk (w := w)
 ·intro A w hC hO hD
  have e31 := evD (hD 2 (by kernel_rfl) 31 rfl)
  obtain ⟨cx, c0, c1⟩ := hC
  clear hD hO
  refine head_val (o := ⟨_, _, _, _, _, _⟩) rfl ?_ rfl rfl ?_ ?_
  rotate_left 1
  ·simp [go_sem, e31, cx, c0, c1, hmr]
   try with_reducible rfl
  ·exact IsV.mk (w := w)
 ·intro A w hC hO hD
  have e32 := evD (hD 3 (by kernel_rfl) 32 rfl)
  obtain ⟨cx, c0, c1⟩ := hC
  clear hD hO
  refine head_val (o := ⟨_, _, _, _, _, _⟩) rfl ?_ rfl rfl ?_ ?_
  rotate_left 1
  ·simp [go_sem, e32, cx, c0, c1, hmr]
   try with_reducible rfl
  ·exact IsV.mk (w := w)
 ·intro A w hC hO hD
  have e0 := evO hO 0 rfl
  obtain ⟨cx, c0, c1⟩ := hC
  clear hD hO
  refine head_val (o := ⟨_, _, _, _, _, _⟩) rfl ?_ rfl rfl ?_ ?_
  rotate_left 1
  ·simp [go_sem, e0, cx, c0, c1, hmr]
   try with_reducible rfl
  ·exact IsV.mk (w := w)
 ·intro A w hC hO hD
  have e34 := evD (hD 5 (by kernel_rfl) 34 rfl)
  obtain ⟨cx, c0, c1⟩ := hC
  clear hD hO
  refine head_val (o := ⟨_, _, _, _, _, _⟩) rfl ?_ rfl rfl ?_ ?_
  rotate_left 1
  ·simp [go_sem, e34, cx, c0, c1, hmr]
   try with_reducible rfl
  ·exact IsV.mk (w := w)
 ·intro A w hC hO hD
  have e35 := evD (hD 6 (by kernel_rfl) 35 rfl)
  obtain ⟨cx, c0, c1⟩ := hC
  clear hD hO
  refine head_val (o := ⟨_, _, _, _, _, _⟩) rfl ?_ rfl rfl ?_ ?_
  rotate_left 1
  ·simp [go_sem, e35, cx, c0, c1, hmr]
   try with_reducible rfl
  ·exact IsV.mk (w := w)
 ·intro A w hC hO hD
  have e36 := evD (hD 7 (by kernel_rfl) 36 rfl)
  obtain ⟨cx, c0, c1⟩ := hC
  clear hD hO
  refine head_val (o := ⟨_, _, _, _, _, _⟩) rfl ?_ rfl rfl ?_ ?_
  rotate_left 1
  ·simp [go_sem, e36, cx, c0, c1, hmr]
   try with_reducible rfl
  ·exact IsV.mk (w := w)
 ·intro A w hC hO hD
  have e37 := evD (hD 8 (by kernel_rfl) 37 rfl)
  obtain ⟨cx, c0, c1⟩ := hC
  clear hD hO
  refine head_val (o := ⟨_, _, _, _, _, _⟩) rfl ?_ rfl rfl ?_ ?_
  rotate_left 1
  ·simp [go_sem, e37, cx, c0, c1, hmr]
   try with_reducible rfl
  ·exact IsV.mk (w := w)
 ·intro A w hC hO hD
  have e0 := evO hO 0 rfl
  obtain ⟨cx, c0, c1⟩ := hC
  clear hD hO
  refine head_val (o := ⟨_, _, _, _, _, _⟩) rfl ?_ rfl rfl ?_ ?_
  rotate_left 1
  ·simp [go_sem, e0, cx, c0, c1, hmr]
   try with_reducible rfl
  ·exact IsV.mk (w := w)
 ·intro A w hC hO hD
  have e39 := evD (hD 10 (by kernel_rfl) 39 rfl)
  obtain ⟨cx, c0, c1⟩ := hC
  clear hD hO
  refine head_val (o := ⟨_, _, _, _, _, _⟩) rfl ?_ rfl rfl ?_ ?_
  rotate_left 1
  ·simp [go_sem, e39, cx, c0, c1, hmr]
   try with_reducible rfl
  ·exact IsV.mk (w := w)
 ·intro A w hC hO hD
  have e40 := evD (hD 11 (by kernel_rfl) 40 rfl)
  obtain ⟨cx, c0, c1⟩ := hC
  clear hD hO
  refine head_val (o := ⟨_, _, _, _, _, _⟩) rfl ?_ rfl rfl ?_ ?_
  rotate_left 1
  ·simp [go_sem, e40, cx, c0, c1, hmr]
   try with_reducible rfl
  ·exact IsV.mk (w := w)
 ·intro A w hC hO hD
  have e41 := evD (hD 12 (by kernel_rfl) 41 rfl)
  obtain ⟨cx, c0, c1⟩ := hC
  clear hD hO
  refine head_val (o := ⟨_, _, _, _, _, _⟩) rfl ?_ rfl rfl ?_ ?_
  rotate_left 1
  ·simp [go_sem, e41, cx, c0, c1, hmr]
   try with_reducible rfl
  ·exact IsV.mk (w := w)
 ·intro A w hC hO hD
  have e42 := evD (hD 13 (by kernel_rfl) 42 rfl)
  obtain ⟨cx, c0, c1⟩ := hC
  clear hD hO
  refine head_val (o := ⟨_, _, _, _, _, _⟩) rfl ?_ rfl rfl ?_ ?_
  rotate_left 1
  ·simp [go_sem, e42, cx, c0, c1, hmr]
   try with_reducible rfl
  ·exact IsV.mk (w := w)
 ·intro A w hC hO hD
  have e33 := evD (hD 4 (by kernel_rfl) 33 rfl)
  have e38 := evD (hD 9 (by kernel_rfl) 38 rfl)
  have e43 := evD (hD 14 (by kernel_rfl) 43 rfl)
  obtain ⟨cx, c0, c1⟩ := hC
  clear hD hO
  refine head_val (o := ⟨_, _, _, _, _, _⟩) rfl ?_ rfl rfl ?_ ?_
  rotate_left 1
  ·simp [go_sem, e33, e38, e43, cx, c0, c1, hmr]
   try with_reducible rfl
  ·exact IsV.mk (w := w)
 ·intro A w hC hO hD
  have e1 := evO hO 1 rfl
  obtain ⟨cx, c0, c1⟩ := hC
  clear hD hO
  refine head_val (o := ⟨_, _, _, _, _, _⟩) rfl ?_ rfl rfl ?_ ?_
  rotate_left 1
  ·simp [go_sem, e1, cx, c0, c1, hmr]
   try with_reducible rfl
  ·exact IsV.mk (w := w)
 ·intro A w hC hO hD
  have e45 := evD (hD 16 (by kernel_rfl) 45 rfl)
  obtain ⟨cx, c0, c1⟩ := hC
  clear hD hO
  refine head_wp (o := ⟨_, _, _, _, _, _⟩) rfl rfl ?_
  simp [go_sem, e45]
  exact ⟨_, rfl, Ext.of_alloc _ _, _, rfl, Blk.new _ _ rfl rfl⟩
 ·intro A w hC hO hD
  have e44 := evD (hD 15 (by kernel_rfl) 44 rfl)
  have e46 := hD 17 (by kernel_rfl) 46 rfl
  rw [ev_tm] at e46
  obtain ⟨cx, c0, c1⟩ := hC
  clear hD hO
  refine head_wp (o := ⟨_, _, _, _, _, _⟩) rfl rfl ?_
  obtain ⟨q, e46, hq⟩ := e46
  refine lo_clip_op _ _ rfl ((ev_tm A 44).trans e44) ((Sn.grn locE_len ⟨HR.out, HRb.out⟩ HGV.out).1.of locE_len cx) _ 1 1 ((ev_tm A 46).trans e46) [p] rfl (by omega) (blk_news hq) (by omega) ?_
  intro v' r hown
  obtain ⟨av, cv, hsh⟩ := Own.shape hown
  exact ⟨v', rfl, ⟨r, rfl⟩, av, cv, by rw [hsh, List.length_append, ← HM.out]; rfl, Own.mono hown cx.size⟩
 ·intro A w hC hO hD
  have e29 := evD (hD 0 (by kernel_rfl) 29 rfl)
  obtain ⟨cx, c0, c1⟩ := hC
  clear hD hO
  refine head_val (o := ⟨_, _, _, _, _, _⟩) rfl ?_ rfl rfl ?_ ?_
  rotate_left 1
  ·simp [go_sem, e29, cx, c0, c1, hmr]
   try with_reducible rfl
  ·exact IsV.mk (w := w)
 ·intro A w hC hO hD
  have e48 := evD (hD 19 (by kernel_rfl) 48 rfl)
  obtain ⟨cx, c0, c1⟩ := hC
  clear hD hO
  refine head_val (o := ⟨_, _, _, _, _, _⟩) rfl ?_ rfl rfl ?_ ?_
  rotate_left 1
  ·simp [go_sem, e48, cx, c0, c1, hmr]
   try with_reducible rfl
  ·exact IsV.mk (w := w)
 intro u wx hC hF
 obtain ⟨f0, f1, f2, f3, f4, f5, f6, f7, f8, f9, f10, f11, f12, f13, f14, f15, f16, f17, f18, f19, f20, _⟩ := hF
 have g0 : u 0 = _ := f0
 have g1 : u 1 = _ := f1
 have g2 : u 2 = _ := f2
 have g3 : u 3 = _ := f3
 have g4 : u 4 = _ := f4
 have g5 : u 5 = _ := f5
 have g6 : u 6 = _ := f6
 have g7 : u 7 = _ := f7
 have g8 : u 8 = _ := f8
 have g9 : u 9 = _ := f9
 have g10 : u 10 = _ := f10
 have g11 : u 11 = _ := f11
 have g12 : u 12 = _ := f12
 have g13 : u 13 = _ := f13
 have g14 : u 14 = _ := f14
 have g15 : u 15 = _ := f15
 have g16 : u 16 = _ := f16
 obtain ⟨v17, g17⟩ : ∃ v, u 17 = v := ⟨_, rfl⟩
 rw [g17] at f17
 obtain ⟨v18, g18⟩ : ∃ v, u 18 = v := ⟨_, rfl⟩
 rw [g18] at f18
 have g19 : u 19 = _ := f19
 have g20 : u 20 = _ := f20
 simp only [fPut, Nat.zero_add, Nat.reduceAdd, g0, g1, g2, g3, g4, g5, g6, g7, g8, g9, g10, g11, g12, g13, g14, g15, g16, g17, g18, g19, g20, Act.put, List.setIfInBounds_toArray, List.set_cons_zero, List.set_cons_succ, List.length_cons, List.length_nil, List.drop_succ_cons, List.drop_zero]
 clear g0 g1 g2 g3 g4 g5 g6 g7 g8 g9 g10 g11 g12 g13 g14 g15 g16 g17 g18 g19 g20 f0 f1 f2 f3 f4 f5 f6 f7 f8 f9 f10 f11 f12 f13 f14 f15 f16 f19 f20
 obtain ⟨aw, cw, hv18, ho18⟩ := f18
 subst hv18
 have HXx := hid hC.1
 have HBx := hid (HBV.out.of HXx.out)
 have HO := hid ho18
 have q0 := HBx.out.2.2 10 _ rfl
 have q1 := HBx.out.2.1 10
 have q2 := HBx.out.1
 clear hC ho18 f17
 (repeat (first | go_values | go_skip | go_guarded | go_step | go_upon | (simp only [Int.not_lt, Int.not_le] at *; go_simp) | (go_ite <;> go_prune <;> (try go_simp))))
 go_end0
 have HG := hid (show Grn g w (World.setCell wx ⟨g, 10, none⟩ (.slice aw (m + 1) cw)) from (HGV.out.trans (Grn.of_ext HXx.out)).setCell _ _)
 refine ⟨rfl, ⟨av, cv, aw, cw, ?_⟩, HG.out⟩
 have HE := HH.out
 refine ⟨?_, HE.pl.grn locE_len HG.out, HE.sl.grn locE_len HG.out, HE.th.grn locE_len HG.out, HE.loads.grn locE_len HG.out, ?_, ?_, HE.loaded.grn fdE_len HG.out, HE.tight, Nat.le_trans HE.big HG.out.size⟩
 ·have := HBx.out.set 10 (by simp) (.slice aw (m + 1) cw)
  have e1 : (cStore s p (x, y, z)).acts.length = n + 1 := by show (s.acts ++ [_]).length = _; rw [List.length_append, ← HN.out]; rfl
  have e2 : (cStore s p (x, y, z)).stored.length = m + 1 := by show (s.stored ++ [_]).length = _; rw [List.length_append, ← HM.out]; rfl
  unfold cdL
  rw [e1, e2]
  exact this
 ·have e1 : (cStore s p (x, y, z)).acts.length = n + 1 := by show (s.acts ++ [_]).length = _; rw [List.length_append, ← HN.out]; rfl
  rw [e1]
  exact Own.sn acE_len ((HOV.out.of_ext HXx.out).under (Nat.lt_of_lt_of_le lg HEU.out.size) _) (Nat.le_trans HE.big HEU.out.size)
 ·have e2 : (cStore s p (x, y, z)).stored.length = m + 1 := by show (s.stored ++ [_]).length = _; rw [List.length_append, ← HM.out]; rfl
  rw [e2]
  exact Own.sn locE_len (HO.out.under (Nat.lt_of_lt_of_le lg (Nat.le_trans HEU.out.size HUV)) _) (Nat.le_trans HE.big (Nat.le_trans HEU.out.size HUV))
end Go.Proofs.YtdpbcfjfnclpiaaDoor
