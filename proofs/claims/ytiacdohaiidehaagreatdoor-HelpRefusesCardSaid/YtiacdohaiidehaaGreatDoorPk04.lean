/- Slices with the blocks where they lie; histories (simulcast/history): lists of messages; New, Len, At, Last, Add, Choose. -/
import Derived.Test.YtiacdohaiidehaaGreatDoorPk02
import Derived.Test.YtiacdohaiidehaaGreatDoorPk03
import Derived.Deep.DeepCutAuto
namespace Go.Proofs.YtiacdohaiidehaaGreatDoor
set_option linter.unusedSimpArgs false
set_option linter.unusedVariables false
open Go.RowKit Go.Maps
theorem sl_blk {α : Type} {enc : α → List Value} {size : Nat} (henc : ∀ x, (enc x).length = size) {w : World} {b c : Nat} {l : List α} (h : Blk w b (l.flatMap enc)) (hn : l.length ≤ 9223372036854775807) (hc : l.length ≤ c) : Sl w size enc (.slice (some ⟨b, 0, none⟩) l.length c) l := by
 refine ⟨_, c, rfl, ⟨hn, hc⟩, fun _ => ⟨b, 0, rfl, h.1, fun i x hx j hj => ?_⟩⟩
 have h1 := flat_at henc l i x hx j hj
 have h2 : (enc x)[j]? = some ((enc x)[j]'(by rw [henc]; exact hj)) := List.getElem?_eq_getElem _
 rw [h2] at h1 ⊢
 rw [show 0 + i * size + j = size * i + j by rw [Nat.mul_comm]; omega]
 exact h.2.2 _ _ h1
def Sp {α : Type} (w : World) (P : Nat → Prop) (size : Nat) (enc : α → List Value) (v : Value) (l : List α) : Prop := Sl w size enc v l ∧ (l ≠ [] → ∀ a n c, v = .slice (some a) n c → P a.block)
section
variable {α : Type} {size : Nat} {enc : α → List Value} {w w' : World} {P : Nat → Prop} {v : Value} {l : List α}
theorem Sp.of (henc : ∀ x, (enc x).length = size) (h : Sp w P size enc v l) (he : Ext w w') : Sp w' P size enc v l := ⟨h.1.of henc he, h.2⟩
theorem Sp.imp (h : Sp w P size enc v l) {P' : Nat → Prop} (hp : ∀ b, P b → P' b) : Sp w P' size enc v l := ⟨h.1, fun hn a n c he => hp _ (h.2 hn a n c he)⟩
theorem Sp.nil : Sp w P size enc (.slice none 0 0) ([] : List α) := ⟨Sl.nil, fun h => absurd rfl h⟩
theorem Sp.grn (henc : ∀ x, (enc x).length = size) (h : Sp w P size enc v l) {g : Nat} (k : Grn g w w') (hg : ¬ P g) : Sp w' P size enc v l := by
 refine ⟨?_, h.2⟩
 obtain ⟨⟨a, c, rfl, hm, hl⟩, hp⟩ := h
 refine ⟨a, c, rfl, hm, fun hn => ?_⟩
 obtain ⟨b, o, rfl, hbl, hc⟩ := hl hn
 have hne : b ≠ g := fun he => hg (he ▸ hp hn _ _ _ rfl)
 refine ⟨b, o, rfl, Nat.lt_of_lt_of_le hbl k.size, fun i x hx j hj => ?_⟩
 have h1 := hc i x hx j hj
 rw [List.getElem?_eq_getElem (by rw [henc]; exact hj)] at h1 ⊢
 exact k.cell hne h1
theorem Sp.kp (henc : ∀ x, (enc x).length = size) (h : Sp w P size enc v l) (k : KpB P w w') : Sp w' P size enc v l := by
 refine ⟨?_, h.2⟩
 obtain ⟨⟨a, c, rfl, hm, hl⟩, hp⟩ := h
 refine ⟨a, c, rfl, hm, fun hn => ?_⟩
 obtain ⟨b, o, rfl, hbl, hc⟩ := hl hn
 refine ⟨b, o, rfl, Nat.lt_of_lt_of_le hbl k.1, fun i x hx j hj => ?_⟩
 rw [k.cell (hp hn _ _ _ rfl) hbl]
 exact hc i x hx j hj
theorem Sp.bnd (h : Sp w P size enc v l) : Sp w (fun b => P b ∧ b < w.heap.size) size enc v l := by
 refine ⟨h.1, fun hn a n c he => ⟨h.2 hn a n c he, ?_⟩⟩
 obtain ⟨a', c', hv, _, hq⟩ := h.1
 obtain ⟨b, o, hab, hb, _⟩ := hq hn
 rw [he] at hv
 simp only [Value.slice.injEq] at hv
 rw [hab] at hv
 have := hv.1
 simp only [Option.some.injEq] at this
 rw [this]; exact hb
theorem Sp.shape (h : Sp w P size enc v l) : ∃ a c, v = .slice a l.length c ∧ l.length ≤ c ∧ (a = none → l.length = 0) := by
 obtain ⟨⟨a, c, hv, hm, hl⟩, _⟩ := h
 refine ⟨a, c, hv, hm.2, fun ha => ?_⟩
 cases hr : l with
 | nil => rfl
 | cons x r =>
  obtain ⟨b, o, he, _⟩ := hl (by rw [hr]; simp)
  rw [ha] at he; cases he
theorem Sp.ownN {base : Nat} {e : TypeId} {D : List TypeId} {w0 : World} (henc : ∀ x, (enc x).length = size) (h : Own w base e size enc v l) (hb : w0.heap.size ≤ base) (he : e ∈ D) : Sp w (fun b => base ≤ b ∧ NewB D w0 w b) size enc v l := by
 refine ⟨Sl.of_own henc h, fun hn a n c hv => ?_⟩
 rcases h.2 with ⟨_, h2⟩ | ⟨g, cap, cur, h1, hb2, h3, _⟩
 ·exact absurd (List.length_eq_zero_iff.1 h2) hn
 ·rw [h1] at hv
  simp only [Value.slice.injEq, Option.some.injEq] at hv
  rw [← hv.1]; exact ⟨hb2, by show w0.heap.size ≤ g; omega, _, h3, he⟩
theorem Sp.own {base : Nat} {e : TypeId} (henc : ∀ x, (enc x).length = size) (h : Own w base e size enc v l) (hp : ∀ b, base ≤ b → P b) : Sp w P size enc v l := by
 refine ⟨Sl.of_own henc h, fun hn a n c he => ?_⟩
 rcases h.2 with ⟨_, h2⟩ | ⟨g, cap, cur, h1, hb, _⟩
 ·exact absurd (List.length_eq_zero_iff.1 h2) hn
 ·rw [h1] at he
  simp only [Value.slice.injEq, Option.some.injEq] at he
  rw [← he.1]; exact hp _ hb
end
structure Mg where
 w : Wd
 t : Int
 v : Int → Nat
abbrev RMg := Wd × Int × Option Nat
abbrev mgE (r : RMg) : List Value := [.int .i64 r.1.1, .int .u32 r.1.2.1, .int .u32 r.1.2.2, .int .i64 r.2.1, .map r.2.2]
theorem mgE_len (r : RMg) : (mgE r).length = 5 := rfl
def MgR (w : World) (P : Nat → Prop) (r : RMg) (m : Mg) : Prop := r.1 = m.w ∧ r.2.1 = m.t ∧ VwR w P (.map r.2.2) m.v
def HsR (w : World) (P : Nat → Prop) (v : Value) (l : List Mg) : Prop := ∃ raw : List RMg, Sp w P 5 mgE v raw ∧ raw.length = l.length ∧ ∀ (i : Nat) (r : RMg) (m : Mg), raw[i]? = some r → l[i]? = some m → MgR w P r m
section
variable {w w' : World} {P : Nat → Prop} {v : Value} {l : List Mg} {r : RMg} {m : Mg}
theorem MgR.of (h : MgR w P r m) (he : Ext w w') : MgR w' P r m := ⟨h.1, h.2.1, h.2.2.of he⟩
theorem MgR.kp (h : MgR w P r m) (k : KpB P w w') : MgR w' P r m := ⟨h.1, h.2.1, h.2.2.kp k⟩
theorem MgR.imp (h : MgR w P r m) {P' : Nat → Prop} (hp : ∀ b, P b → P' b) : MgR w P' r m := ⟨h.1, h.2.1, h.2.2.imp hp⟩
theorem MgR.bnd (h : MgR w P r m) : MgR w (fun b => P b ∧ b < w.heap.size) r m := ⟨h.1, h.2.1, h.2.2.bnd⟩
theorem HsR.kp (h : HsR w P v l) (k : KpB P w w') : HsR w' P v l := by
 obtain ⟨raw, h1, h2, h3⟩ := h
 exact ⟨raw, h1.kp mgE_len k, h2, fun i r m hr hm => (h3 i r m hr hm).kp k⟩
theorem HsR.of (h : HsR w P v l) (he : Ext w w') : HsR w' P v l := by
 obtain ⟨raw, h1, h2, h3⟩ := h
 exact ⟨raw, h1.of mgE_len he, h2, fun i r m hr hm => (h3 i r m hr hm).of he⟩
theorem HsR.imp (h : HsR w P v l) {P' : Nat → Prop} (hp : ∀ b, P b → P' b) : HsR w P' v l := by
 obtain ⟨raw, h1, h2, h3⟩ := h
 exact ⟨raw, h1.imp hp, h2, fun i r m a b => (h3 i r m a b).imp hp⟩
theorem HsR.bnd (h : HsR w P v l) : HsR w (fun b => P b ∧ b < w.heap.size) v l := by
 obtain ⟨raw, h1, h2, h3⟩ := h
 exact ⟨raw, h1.bnd, h2, fun i r m a b => (h3 i r m a b).bnd⟩
theorem HsR.shape (h : HsR w P v l) : ∃ a c, v = .slice a l.length c ∧ l.length ≤ c ∧ (a = none → l.length = 0) := by
 obtain ⟨raw, h1, h2, _⟩ := h
 rw [← h2]; exact h1.shape
end
theorem Tryz.infoMsg : (Tryz.prog.info? 181).map (fun i => (i.zero, i.size, i.bytes)) = some (some (.agg #[.int .i64 0, .int .u32 0, .int .u32 0, .int .i64 0, .map none]), 5, 32) := by kernel_rfl
theorem heap_newH {w : World} {o : Obj} {n : Nat} (hn : n = w.heap.size) : (w.alloc o).heap[n]? = some o := by subst hn; exact (MapKept.heap_alloc w o).1
theorem hlen_any (a : Option Addr) (n c : Nat) (w : World) : Calls Tryz.prog 156 #[.agg #[.slice a n c]] w fun e w' => e = .returned (.int .i64 n) ∧ ∃ r, w' = ext w r := by
 go_enter Tryz.func156, Tryz.ntmps156
 go_wp2_with fail
 go_ret
 exact ⟨rfl, by exact exP⟩
set_option maxHeartbeats 1000000 in
theorem hnew_any (x1 x2 x3 : Int) (w : World) : Calls Tryz.prog 95 #[.agg #[.int .i64 x1, .int .u32 x2, .int .u32 x3]] w fun e w' => ∃ v, e = .returned (.agg #[v]) ∧ Ext w w' ∧ HsR w' (NewB [181] w w') v [⟨(x1, x2, x3), 0, fun _ => 0⟩] := by
 go_enter Tryz.func95, Tryz.ntmps95
 (repeat (first | go_values | go_skip | go_guarded | go_step | go_upon | (simp only [Int.not_lt, Int.not_le] at *; go_simp) | (go_ite <;> go_prune <;> (try go_simp))))
 exact bodyPost_ret (v := .agg #[.slice (some ⟨w.heap.size + 1 + 1, 0, none⟩) 1 1]) (by simp [results, Tryz.results95, go_sem]) rfl ⟨_, rfl, by exact exP, [((x1, x2, x3), 0, none)], ⟨sl_blk (l := [((x1, x2, x3), 0, none)]) mgE_len (Blk.new _ _ rfl (by simp)) (by simp) (by simp), fun _ a n c he => by cases he; exact ⟨by show w.heap.size ≤ w.heap.size + 1 + 1; omega, _, heap_newH (by simp), List.mem_singleton.2 rfl⟩⟩, rfl, fun i r m hr hm => by
  cases i with
  | zero => simp at hr hm; subst hr hm; exact ⟨rfl, rfl, VwR.zero _ _⟩
  | succ i => simp at hr⟩
set_option maxHeartbeats 1000000 in
theorem hat_any {w : World} {P : Nat → Prop} {v : Value} {l : List Mg} (h : HsR w P v l) (i : Nat) (x1 x2 x3 t : Int) (f : Int → Nat) (hm : l[i]? = some ⟨(x1, x2, x3), t, f⟩) :
 Calls Tryz.prog 103 #[.agg #[v], .int .i64 i] w fun e w' => ∃ q, e = .returned (.tuple #[.agg #[.int .i64 x1, .int .u32 x2, .int .u32 x3, .int .i64 t, .map q], .bool true]) ∧ Ext w w' ∧ VwR w' P (.map q) f := by
 obtain ⟨raw, h1, h2, h3⟩ := h
 have hi : i < l.length := (List.getElem?_eq_some_iff.1 hm).1
 obtain ⟨r, hr⟩ : ∃ r, raw[i]? = some r := ⟨raw[i]'(by omega), List.getElem?_eq_getElem _⟩
 obtain ⟨e1, e2, e3⟩ := h3 i r _ hr hm
 obtain ⟨⟨r1, r2, r3⟩, r4, r5⟩ := r
 dsimp only at e1 e2 e3
 cases e1; cases e2
 obtain ⟨a, c, rfl, _, _⟩ := h1.shape
 obtain ⟨_, b, o, rfl, hb, hc⟩ := h1.1.at hr
 have c0 := hc 0 (by omega)
 have c1 := hc 1 (by omega)
 have c2 := hc 2 (by omega)
 have c3 := hc 3 (by omega)
 have c4 := hc 4 (by omega)
 simp at c0 c1 c2 c3 c4
 have hd1 : decide ((i : Int) < 0) = false := decide_eq_false (by omega)
 have hil : (i : Int) < (raw.length : Int) := by omega
 have hnl : ¬ (raw.length : Int) ≤ (i : Int) := by omega
 have HV := hid e3
 clear h1 h2 h3 hr hc hm e3 hi
 go_enter Tryz.func103, Tryz.ntmps103
 (repeat (first | go_values | go_skip | go_guarded | go_step | go_upon | (simp only [Int.not_lt, Int.not_le] at *; go_simp) | (go_ite <;> go_prune <;> (try go_simp))))
 exact bodyPost_ret (v := .tuple #[.agg #[.int .i64 x1, .int .u32 x2, .int .u32 x3, .int .i64 t, .map r5], .bool true]) (by simp [results, Tryz.results103, go_sem]) rfl ⟨_, rfl, by exact exP, HV.out.of (by exact exP)⟩
set_option maxHeartbeats 1000000 in
theorem hlast_any {w : World} {P : Nat → Prop} {v : Value} {l : List Mg} (h : HsR w P v l) (x1 x2 x3 t : Int) (f : Int → Nat) (hm : l[l.length - 1]? = some ⟨(x1, x2, x3), t, f⟩) (hlen : l.length ≤ 1000000) :
 Calls Tryz.prog 84 #[.agg #[v]] w fun e w' => ∃ q, e = .returned (.agg #[.int .i64 x1, .int .u32 x2, .int .u32 x3, .int .i64 t, .map q]) ∧ Ext w w' ∧ VwR w' P (.map q) f := by
 have hi : l.length - 1 < l.length := (List.getElem?_eq_some_iff.1 hm).1
 obtain ⟨k, hk⟩ : ∃ k, l.length = k + 1 := ⟨l.length - 1, by omega⟩
 obtain ⟨a, c, rfl, q1, q2⟩ := h.shape
 rw [hk] at hm h ⊢
 rw [Nat.add_sub_cancel] at hm
 obtain ⟨n, hn⟩ : ∃ n, n = k + 1 := ⟨_, rfl⟩
 rw [← hn] at h ⊢
 have hw := hid (show wrap64 ((n : Int) - 1) = (k : Int) by rw [show (n : Int) - 1 = (k : Int) by omega]; exact IntWalk.wrap64_in _ (by omega))
 have H := hid h
 have HM := hid hm
 clear h hm hi hk hlen hn q1 q2
 go_enter Tryz.func84, Tryz.ntmps84
 go_wp2_with fail
 rw [hw.out]
 refine (hat_any (H.out.of (by exact exP)) k x1 x2 x3 t f HM.out).mono ?_
 rintro e w' ⟨q, rfl, he, hq⟩
 have HE := hid (Ext.trans (show Ext w _ by exact exP) he)
 have HB := hid ((show Blk _ (w.heap.size + 1) [.int .i64 0, .int .u32 0, .int .u32 0, .int .i64 0, .map none] by exact bkP).of he)
 have HQ := hid hq
 clear he hq
 have b0 := HB.out.2.2 0 _ rfl
 have b1 := HB.out.2.2 1 _ rfl
 have b2 := HB.out.2.2 2 _ rfl
 have b3 := HB.out.2.2 3 _ rfl
 have b4 := HB.out.2.2 4 _ rfl
 have bf := HB.out.2.1
 have bs := HB.out.1
 (repeat (first | go_values | go_skip | go_guarded | go_step | go_upon | (simp only [Int.not_lt, Int.not_le] at *; go_simp) | (go_ite <;> go_prune <;> (try go_simp))))
 exact bodyPost_ret (v := .agg #[.int .i64 x1, .int .u32 x2, .int .u32 x3, .int .i64 t, .map q]) (by simp [results, Tryz.results84, go_sem, b0, b1, b2, b3, b4, bf, bs]) rfl ⟨_, rfl, by exact exF, HQ.out.kpm (P' := fun _ => False) (by (show KpB _ _ _; repeat first | (with_reducible first | exact KpB.refl | refine KpB.ext ?_ _ | refine KpB.alloc ?_ _ | refine KpB.drew ?_ | refine KpB.setCell ?_ (fun h => h) _) | exact KpB.refl))⟩
theorem hclip_any {w : World} {a : Option Addr} {n c : Nat} (hn : n ≤ c) (h0 : a = none → n = 0) : Calls Tryz.prog 170 #[.slice a n c] w fun e w' => e = .returned (.slice a n n) ∧ ∃ r, w' = ext w r := by
 cases a with
 | none =>
  obtain rfl := h0 rfl
  go_enter Tryz.func170, Tryz.ntmps170
  go_wp2_with fail
  go_ret
  exact ⟨rfl, by exact exP⟩
 | some ad =>
  clear h0
  go_enter Tryz.func170, Tryz.ntmps170
  go_wp2_with fail
  go_ret
  exact ⟨rfl, by exact exP⟩
theorem mg_clip_op {o : Oper} {a : Act} {K : Act → World → Prop} {Q : Exit → Act → World → Prop} {w : World} {l : List RMg}
 (s x : Operand) (ho : o.op = .call { callee := .builtin .append, args := #[s, x], argTypes := #[172, 172] })
 {sa : Option Addr} {n : Nat} (hs : a.eval s = .slice sa n n) (hsl : Sl w 5 mgE (.slice sa n n) l)
 (ad : Addr) (m c : Nat) (hx : a.eval x = .slice (some ad) m c) (news : List RMg) (hm : news.length = m) (hm0 : 0 < m)
 (hnews : ∀ (j : Nat) (u : Value), (news.flatMap mgE)[j]? = some u → w.cell? (ad.add j) = some u) (hlen : n + m ≤ 1000000)
 (h : ∀ v' r, Own (ext w r) w.heap.size 181 5 mgE v' (l ++ news) → K (a.put o.dst v') (ext w r)) : Oper.wp Tryz.prog o a w K Q := by
 obtain ⟨i0, hi, hz0, hz1, hz2⟩ := info_parts Tryz.infoMsg
 exact app_clip_op Tryz.underlying172 hi hz0 hz1 hz2 rfl (by decide) mgE_len s x ho hs hsl ad m c hx news hm hm0 hnews (by unfold maxLen; omega) (by omega) h
theorem blk_newsM {w : World} {b : Nat} {x : RMg} (h : Blk w b (mgE x)) : ∀ (j : Nat) (u : Value), ([x].flatMap mgE)[j]? = some u → w.cell? ((⟨b, 0, none⟩ : Addr).add j) = some u := by
 intro j u hu
 have hadd : (⟨b, 0, none⟩ : Addr).add j = ⟨b, j, none⟩ := by unfold Addr.add; split <;> simp_all
 rw [hadd]
 exact h.2.2 j u (by simpa using hu)
theorem Sl.clipM {α : Type} {w : World} {size : Nat} {enc : α → List Value} {l : List α} {a : Option Addr} {c : Nat} (h : Sl w size enc (.slice a l.length c) l) : Sl w size enc (.slice a l.length l.length) l := by
 have := Sl.take h l.length (Nat.le_refl _) l.length (Nat.le_refl _)
 rwa [List.take_length] at this
set_option maxRecDepth 100000 in
set_option maxHeartbeats 1000000 in
theorem hadd_any {w : World} {P : Nat → Prop} {v : Value} {l : List Mg} (h : HsR w P v l) (x1 x2 x3 t : Int) (q : Option Nat) (f : Int → Nat) (hq : VwR w P (.map q) f) (hlen : l.length ≤ 999999) :
 Calls Tryz.prog 157 #[.agg #[v], .agg #[.int .i64 x1, .int .u32 x2, .int .u32 x3, .int .i64 t, .map q]] w fun e w' => ∃ v', e = .returned (.agg #[v']) ∧ Ext w w' ∧ HsR w' (fun b => P b ∨ NewB [181] w w' b) v' (l ++ [⟨(x1, x2, x3), t, f⟩]) := by
 obtain ⟨raw, h1, h2, h3⟩ := h
 have H1 := hid h1
 have H3 := hid h3
 have HQ := hid hq
 obtain ⟨a, c, rfl, hc, h0⟩ := h1.shape
 obtain ⟨n, hn⟩ : ∃ n, n = raw.length := ⟨_, rfl⟩
 have HN := hid hn
 have HL := hid h2
 rw [← hn] at H1 hc h0 h2 ⊢
 have hlen2 : n ≤ 999999 := by omega
 have HC := hid (And.intro hc h0)
 clear h1 h3 hq hn hc h0 h2 hlen
 go_enter Tryz.func157, Tryz.ntmps157
 go_upto_region 1 with fail
 generalize hU : World.alloc _ _ = U
 have HEU := hid (show Ext w U by rw [← hU]; exact exP)
 have HB1 := hid (show Blk U w.heap.size [.slice a n c] by rw [← hU]; exact bkP)
 have HB2 := hid (show Blk U (w.heap.size + 1) (mgE ((x1, x2, x3), t, q)) by rw [← hU]; exact bkP)
 have HB3 := hid (show Blk U (w.heap.size + 1 + 1) [.slice none 0 0] by rw [← hU]; exact bkP)
 clear hU
 obtain ⟨g, hg⟩ : ∃ g, g = w.heap.size := ⟨_, rfl⟩
 have HGw := hid (show w.heap.size = g from hg.symm)
 rw [← hg] at HB1 HB2 HB3 ⊢
 clear hg
 have k0 := HB1.out.2.2 0 _ rfl
 have kg := HB1.out.1
 have l0 := HB2.out.2.2 0 _ rfl
 have l1 := HB2.out.2.2 1 _ rfl
 have l2 := HB2.out.2.2 2 _ rfl
 have l3 := HB2.out.2.2 3 _ rfl
 have l4 := HB2.out.2.2 4 _ rfl
 have lg := HB2.out.1
 have HL_ := hid (fun w' (h : Ext U w') => (And.intro (Nat.lt_of_lt_of_le kg h.size) (And.intro (Nat.lt_of_lt_of_le lg h.size) (And.intro (h.cell k0) (And.intro (h.cell l0) (And.intro (h.cell l1) (And.intro (h.cell l2) (And.intro (h.cell l3) (h.cell l4)))))))))
 refine wp_region_facts [5, 6, 7, 8, 9, 10, 11] [0, 1, 2, 3, 4, 5, 6] rfl (fun w' => Ext U w') (fsAt [IsV ?_, IsV ?_, IsV (.slice a n n), IsV ?_, (fun v w' => ∃ b, v = .slice (some ⟨b, 0, none⟩) 1 1 ∧ Blk w' b (mgE ((x1, x2, x3), t, q))), (fun v w' => Own w' U.heap.size 181 5 mgE v (raw ++ [((x1, x2, x3), t, q)])), (fun v w' => ∃ u, v = .agg #[u] ∧ Own w' U.heap.size 181 5 mgE u (raw ++ [((x1, x2, x3), t, q)]))]) (by kernel_rfl) (by kernel_rfl) ((Ext.refl _).drew) (fun w w' h he => h.trans he) (aC (fun _ _ _ h _ => h) (aC (fun _ _ _ h _ => h) (aC (fun _ _ _ h _ => h) (aC (fun _ _ _ h _ => h) (aC (fun _ _ _ h he => by obtain ⟨b, h1, h2⟩ := h; exact ⟨b, h1, h2.of he⟩) (aC (fun _ _ _ h he => h.of_ext he) (aC (fun _ _ _ h he => by obtain ⟨u, h1, h2⟩ := h; exact ⟨u, h1, h2.of_ext he⟩) (AllOn.nil)))))))) (aC ?_ (aC ?_ (aC ?_ (aC ?_ (aC ?_ (aC ?_ (aC ?_ (AllOn.nil)))))))) ?_
 rotate_left 3
 ·intro A w cx hO hD
  have e2 := evO hO 2 rfl
  clear hD hO
  refine hdV rfl ?_ rfl rfl ?_ ?_
  rotate_left 1
  ·simp [go_sem, e2, cx, HL_.out w cx]
   try with_reducible rfl
  ·exact IsV.mk (w := w)
 ·intro A w cx hO hD
  have e5 := evD (hD 0 (by kernel_rfl) 5 rfl)
  clear hD hO
  refine hdV rfl ?_ rfl rfl ?_ ?_
  rotate_left 1
  ·simp [go_sem, e5, cx, HL_.out w cx]
   try with_reducible rfl
  ·exact IsV.mk (w := w)
 ·intro A w cx hO hD
  have e6 := evD (hD 1 (by kernel_rfl) 6 rfl)
  clear hD hO
  refine hdW rfl rfl ?_
  simp [go_sem, e6]
  refine (hclip_any HC.out.1 HC.out.2).mono ?_
  rintro e w' ⟨rfl, r', rfl⟩
  exact ⟨_, rfl, ⟨r', rfl⟩, rfl⟩
 ·intro A w cx hO hD
  have e3 := evO hO 3 rfl
  clear hD hO
  refine hdV rfl ?_ rfl rfl ?_ ?_
  rotate_left 1
  ·simp [go_sem, e3, cx, HL_.out w cx]
   try with_reducible rfl
  ·exact IsV.mk (w := w)
 ·intro A w cx hO hD
  have e8 := evD (hD 3 (by kernel_rfl) 8 rfl)
  clear hD hO
  refine hdW rfl rfl ?_
  simp [go_sem, e8]
  exact ⟨_, rfl, Ext.of_alloc _ _, _, rfl, Blk.new _ _ rfl rfl⟩
 ·intro A w cx hO hD
  have e7 := evD (hD 2 (by kernel_rfl) 7 rfl)
  have e9 := hD 4 (by kernel_rfl) 9 rfl
  rw [ev_tm] at e9
  clear hD hO
  refine hdW rfl rfl ?_
  obtain ⟨b, e9, hb⟩ := e9
  refine mg_clip_op _ _ rfl ((ev_tm A 7).trans e7) (show Sl _ 5 mgE (.slice a n n) raw from by have := (H1.out.1.of mgE_len (HEU.out.trans cx)); rw [HN.out] at this ⊢; exact this.clipM) _ 1 1 ((ev_tm A 9).trans e9) [((x1, x2, x3), t, q)] rfl (by omega) (blk_newsM hb) (by omega) ?_
  intro v' r' hv
  exact ⟨_, rfl, ⟨r', rfl⟩, Own.mono hv cx.size⟩
 ·intro A w cx hO hD
  have e10 := hD 5 (by kernel_rfl) 10 rfl
  rw [ev_tm] at e10
  clear hD hO
  refine hdW rfl rfl ?_
  obtain ⟨a', c', hs⟩ := Own.shape e10
  have e11 : Own w U.heap.size 181 5 mgE (A.tmps[10]?.getD undef) (raw ++ [((x1, x2, x3), t, q)]) := e10
  rw [hs] at e11
  simp [go_sem, hs]
  exact ⟨_, rfl, Ext.refl _, _, rfl, by simpa using e11⟩
 intro u wx hC hF
 obtain ⟨f0, f1, f2, f3, f4, f5, f6, _⟩ := hF
 have g0 : u 0 = _ := f0
 have g1 : u 1 = _ := f1
 have g2 : u 2 = _ := f2
 have g3 : u 3 = _ := f3
 obtain ⟨v4, g4⟩ : ∃ v, u 4 = v := ⟨_, rfl⟩
 rw [g4] at f4
 obtain ⟨v5, g5⟩ : ∃ v, u 5 = v := ⟨_, rfl⟩
 rw [g5] at f5
 obtain ⟨v6, g6⟩ : ∃ v, u 6 = v := ⟨_, rfl⟩
 rw [g6] at f6
 simp only [fPut, Nat.zero_add, Nat.reduceAdd, g0, g1, g2, g3, g4, g5, g6, Act.put, List.setIfInBounds_toArray, List.set_cons_zero, List.set_cons_succ, List.length_cons, List.length_nil, List.drop_succ_cons, List.drop_zero]
 clear g0 g1 g2 g3 g4 g5 g6 f0 f1 f2 f3
 obtain ⟨u, rfl, hu⟩ := f6
 obtain ⟨a', c', rfl⟩ := Own.shape hu
 have HU := hid hu
 have HX := hid hC
 have hb3 := HB3.out.of hC
 have b0 := hb3.2.2 0 _ rfl
 have bf := hb3.2.1 0
 have bs := hb3.1
 clear hu hC hb3
 (repeat (first | go_values | go_skip | go_guarded | go_step | go_upon | (simp only [Int.not_lt, Int.not_le] at *; go_simp) | (go_ite <;> go_prune <;> (try go_simp))))
 have hgl := HB3.out.1
 have hgw := HGw.out
 have hgr : Grn (g + 1 + 1) wx (wx.setCell ⟨g + 1 + 1, 0, none⟩ (.slice a' (raw.length + 1) c')) := by exact gnP
 have hsp := ((Sp.ownN (D := [181]) (w0 := w) mgE_len HU.out HEU.out.size (List.mem_singleton.2 rfl)).kp mgE_len (KpB.refl.setCell (a := g + 1 + 1) (i := 0) (fun h => by have := h.1; omega) (.slice a' (raw.length + 1) c'))).imp (P' := fun b => P b ∨ NewB [181] w (wx.setCell ⟨g + 1 + 1, 0, none⟩ (.slice a' (raw.length + 1) c')) b) (fun b h => .inr (h.2.to (Nat.le_refl _) (TyK.refl.setCell _ _)))
 have hex : Ext w (wx.setCell ⟨g + 1 + 1, 0, none⟩ (.slice a' (raw.length + 1) c')) := Ext.grn (HEU.out.trans HX.out) hgr (by omega)
 rw [List.length_append] at hsp
 exact bodyPost_ret (v := .agg #[.slice a' (raw.length + 1) c']) (by simp [results, Tryz.results157, go_sem, b0, bf, bs]) rfl ⟨_, rfl, hex, _, hsp, by simp [HL.out], fun i r m hr hm => by
  by_cases hi : i < raw.length
  ·rw [List.getElem?_append_left hi] at hr
   rw [List.getElem?_append_left (by have := HL.out; omega)] at hm
   exact ((H3.out i r m hr hm).of hex).imp (fun b h => .inl h)
  ·rw [List.getElem?_append_right (by omega)] at hr
   rw [List.getElem?_append_right (by have := HL.out; omega), ← HL.out] at hm
   obtain ⟨k, hk⟩ : ∃ k, k = i - raw.length := ⟨_, rfl⟩
   rw [← hk] at hr hm
   cases k with
   | zero => simp at hr hm; subst hr hm; exact ⟨rfl, rfl, (HQ.out.of hex).imp (fun b h => .inl h)⟩
   | succ k => simp at hr⟩
end Go.Proofs.YtiacdohaiidehaaGreatDoor
