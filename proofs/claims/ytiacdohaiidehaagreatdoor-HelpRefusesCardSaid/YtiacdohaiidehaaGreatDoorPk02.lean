/- Views (simulcast/view): maps from places to numbers, as functions; clone, At, With, Join. -/
import Derived.Test.YtiacdohaiidehaaGreatDoorRows
import Derived.Test.YtiacdohaiidehaaGreatDoorPk01
import Derived.Maps.RangeWalk
import Derived.Maps.OwnOps
import Derived.Maps.Ext
import Derived.Laws.CopyOwn
import Derived.Shelf.SlMaps.Clone
namespace Go.Proofs.YtiacdohaiidehaaGreatDoor
set_option linter.unusedSimpArgs false
set_option linter.unusedVariables false
open Go.RowKit Go.Maps
theorem heap_setCell_map {w : World} {b : Nat} {es : Array MapEntry} {c : Nat} (h : w.heap[b]? = some (.map es c)) (a : Addr) (u : Value) : (w.setCell a u).heap[b]? = some (.map es c) := by
 by_cases he : b = a.block
 ·simp only [World.setCell, Array.getElem?_modify]
  rw [if_pos he.symm, h]; rfl
 ·rw [Below.heap_setCell w a u b he]; exact h
def KpB (P : Nat → Prop) (w w' : World) : Prop := w.heap.size ≤ w'.heap.size ∧ (∀ b, P b → b < w.heap.size → w'.heap[b]? = w.heap[b]?) ∧ ∀ (b : Nat) (es : Array MapEntry) (c : Nat), w.heap[b]? = some (.map es c) → w'.heap[b]? = some (.map es c)
section
variable {P : Nat → Prop} {w w' w'' : World}
theorem KpB.refl : KpB P w w := ⟨Nat.le_refl _, fun _ _ _ => rfl, fun _ _ _ h => h⟩
theorem KpB.trans (h : KpB P w w') (k : KpB P w' w'') : KpB P w w'' := ⟨Nat.le_trans h.1 k.1, fun b hb hl => (k.2.1 b hb (Nat.lt_of_lt_of_le hl h.1)).trans (h.2.1 b hb hl), fun b es c e => k.2.2 b es c (h.2.2 b es c e)⟩
theorem heap_of_ext (he : Ext w w') {b : Nat} {o : Obj} (h : w.heap[b]? = some o) : w'.heap[b]? = some o := by obtain ⟨r, rfl⟩ := he; rw [heap_ext w r b (Array.getElem?_eq_some_iff.1 h).1]; exact h
theorem KpB.of_ext (he : Ext w w') : KpB P w w' := ⟨he.size, fun b _ hl => by obtain ⟨r, rfl⟩ := he; exact heap_ext w r b hl, fun b es c h => heap_of_ext he h⟩
theorem KpB.ext (h : KpB P w w') (r : Xt) : KpB P w (ext w' r) := h.trans (KpB.of_ext ⟨r, rfl⟩)
theorem KpB.drew (h : KpB P w w') : KpB P w w'.drew := h
theorem KpB.alloc (h : KpB P w w') (o : Obj) : KpB P w (w'.alloc o) := h.trans (KpB.of_ext (Ext.of_alloc _ _))
theorem KpB.setCell (h : KpB P w w') {a i : Nat} (ha : ¬ P a) (u : Value) : KpB P w (w'.setCell ⟨a, i, none⟩ u) := ⟨by rw [World.size_setCell]; exact h.1, fun b hb hl => (Below.heap_setCell w' _ u b (by dsimp only; intro he; exact ha (by rw [← he]; exact hb))).trans (h.2.1 b hb hl), fun b es c e => heap_setCell_map (h.2.2 b es c e) _ _⟩
theorem KpB.cell (h : KpB P w w') {n i : Nat} (hn : P n) (hl : n < w.heap.size) : w'.cell? ⟨n, i, none⟩ = w.cell? ⟨n, i, none⟩ := World.cell?_of_block (w := w) (h.2.1 n hn hl)
end
def dataObj (D : List TypeId) : Obj → Prop
 | .map _ _ => True
 | .cells _ t _ => t ∈ D
 | _ => False
def TyK (D : List TypeId) (w w' : World) : Prop := w.heap.size ≤ w'.heap.size ∧ ∀ (b : Nat) (o : Obj), w.heap[b]? = some o → dataObj D o → ∃ o', w'.heap[b]? = some o' ∧ dataObj D o'
def NewB (D : List TypeId) (w w' : World) (b : Nat) : Prop := w.heap.size ≤ b ∧ ∃ o, w'.heap[b]? = some o ∧ dataObj D o
section
variable {D : List TypeId} {w w' w'' : World} {b : Nat}
theorem TyK.refl : TyK D w w := ⟨Nat.le_refl _, fun _ o h k => ⟨o, h, k⟩⟩
theorem TyK.trans (h : TyK D w w') (k : TyK D w' w'') : TyK D w w'' := ⟨Nat.le_trans h.1 k.1, fun b o e d => by obtain ⟨o1, e1, d1⟩ := h.2 b o e d; exact k.2 b o1 e1 d1⟩
theorem TyK.of_ext (he : Ext w w') : TyK D w w' := ⟨he.size, fun b o h k => ⟨o, heap_of_ext he h, k⟩⟩
theorem TyK.ext (h : TyK D w w') (r : Xt) : TyK D w (ext w' r) := h.trans (TyK.of_ext ⟨r, rfl⟩)
theorem TyK.drew (h : TyK D w w') : TyK D w w'.drew := h
theorem TyK.alloc (h : TyK D w w') (o : Obj) : TyK D w (w'.alloc o) := h.trans (TyK.of_ext (Ext.of_alloc _ _))
theorem TyK.setCell (h : TyK D w w') (a : Addr) (u : Value) : TyK D w (w'.setCell a u) := h.trans ⟨by rw [World.size_setCell]; exact Nat.le_refl _, fun b o e d => by
 by_cases he : b = a.block
 ·simp only [World.setCell, Array.getElem?_modify]
  rw [if_pos he.symm, e]
  cases o <;> first | exact ⟨_, rfl, d⟩ | exact absurd d (by simp [dataObj])
 ·rw [Below.heap_setCell w' a u b he]; exact ⟨o, e, d⟩⟩
theorem TyK.setRow (h : TyK D w w') (g : Nat) (cs : Array Value) : TyK D w (w'.setRow g cs) := h.trans ⟨by simp [World.setRow], fun b o e d => by
 by_cases he : b = g
 ·subst he
  simp only [World.setRow, Array.getElem?_modify, if_true]
  rw [e]
  cases o <;> first | exact ⟨_, rfl, d⟩ | exact absurd d (by simp [dataObj])
 ·rw [setRow_other w' g b cs he]; exact ⟨o, e, d⟩⟩
theorem NewB.to (h : NewB D w w' b) {v v' : World} (hs : v.heap.size ≤ w.heap.size) (hk : TyK D w' v') : NewB D v v' b := by
 obtain ⟨h1, o, h2, h3⟩ := h
 exact ⟨by omega, hk.2 b o h2 h3⟩
theorem NewB.not (h : NewB D w w' b) {cs : Array Value} {t : TypeId} {fr : Nat × Nat} (hb : w'.heap[b]? = some (.cells cs t fr)) (ht : t ∉ D) : False := by
 obtain ⟨_, o, h2, h3⟩ := h
 rw [hb] at h2
 cases h2
 exact ht h3
end
theorem nodup_len : ∀ (n : Nat) (l : List Nat), l.Nodup → (∀ x ∈ l, x < n) → l.length ≤ n
 | 0, l, _, hl => by
  cases l with
  | nil => simp
  | cons x r => exact absurd (hl x (List.mem_cons_self ..)) (by omega)
 | n + 1, l, hn, hl => by
  have h := nodup_len n (l.erase n) (hn.erase n) (fun x hx => by
   have h1 := hl x (List.mem_of_mem_erase hx)
   have h2 : x ≠ n := fun he => by rw [he] at hx; exact (List.Nodup.not_mem_erase hn) hx
   omega)
  have h3 := List.length_erase (a := n) (l := l)
  split at h3 <;> omega
abbrev VwD (w : World) (b n : Nat) (D : DataW Unit) : Prop := w.ownsMap Tryz.prog 42 (plainElem Tryz.prog 3) b n D
theorem locK : Keyed Tryz.prog 42 := int_keyed Tryz.underlying42
theorem vw_size {w : World} {b n : Nat} {D : DataW Unit} (h : VwD w b n D) (hk : ∀ kl, has D kl = true → ∃ x : Int, kl = .int .i64 x ∧ 0 ≤ x ∧ x < 4096) : Maps.size D ≤ 4096 := by
 obtain ⟨es, rfl, hp, hl⟩ := h.entries locK
 have hk2 : ∀ p ∈ es, ∃ x : Int, p.1 = .int .i64 x ∧ 0 ≤ x ∧ x < 4096 := fun p hp1 =>
  hk p.1 (by rw [has_eq]; exact List.any_eq_true.2 ⟨p, hp1, WideAt.sameKey_self (hl p hp1)⟩)
 rw [size_eq]
 let g : Lit × DataW Unit → Nat := fun p => match p.1 with | .int _ x => x.toNat | _ => 0
 have h1 : (es.map g).Nodup := by
  unfold List.Nodup
  rw [List.pairwise_map]
  refine List.Pairwise.imp_of_mem ?_ hp
  intro p q hp1 hq1 hne he
  obtain ⟨x, hx, x0, x1⟩ := hk2 p hp1
  obtain ⟨y, hy, y0, y1⟩ := hk2 q hq1
  apply hne
  rw [hx, hy]
  have : x = y := by
   have e1 : g p = x.toNat := by simp only [g, hx]
   have e2 : g q = y.toNat := by simp only [g, hy]
   rw [e1, e2] at he
   omega
  rw [this]
 have h2 := nodup_len 4096 _ h1 (fun x hx => by
  obtain ⟨p, hp1, rfl⟩ := List.mem_map.1 hx
  obtain ⟨y, hy, y0, y1⟩ := hk2 p hp1
  have e1 : g p = y.toNat := by simp only [g, hy]
  omega)
 simpa using h2
def VwM (w : World) (b : Nat) (f : Int → Nat) : Prop :=
 ∃ D n, VwD w b n D ∧ (∀ x : Int, (Lit.int .i64 x).wf = true → D.atKey (.int .i64 x) (.lit (.int .i64 0)) = .lit (.int .i64 (f x))) ∧
  (∀ kl, has D kl = true → ∃ x : Int, kl = .int .i64 x ∧ 0 ≤ x ∧ x < 4096 ∧ 0 < f x) ∧ (∀ x : Int, ¬ (0 ≤ x ∧ x < 4096) → f x = 0) ∧ ∀ x, f x ≤ 1000000
def VwR (w : World) (P : Nat → Prop) (v : Value) (f : Int → Nat) : Prop := (v = .map none ∧ ∀ x, f x = 0) ∨ ∃ b, v = .map (some b) ∧ VwM w b f ∧ P b
section
variable {w w' : World} {b : Nat} {v : Value} {f : Int → Nat} {P : Nat → Prop}
theorem VwM.of (h : VwM w b f) (he : Ext w w') : VwM w' b f := by
 obtain ⟨D, n, h1, h2⟩ := h
 obtain ⟨r, rfl⟩ := he
 exact ⟨D, n, h1.kept (row := none) ⟨rfl, rfl, rfl, by simp, fun i hi _ => heap_ext w r i hi⟩ (by simp), h2⟩
theorem VwR.of (h : VwR w P v f) (he : Ext w w') : VwR w' P v f := h.imp id (fun ⟨b, h1, h2, h3⟩ => ⟨b, h1, h2.of he, h3⟩)
theorem VwR.imp (h : VwR w P v f) {P' : Nat → Prop} (hp : ∀ b, P b → P' b) : VwR w P' v f := Or.imp id (fun ⟨b, h1, h2, h3⟩ => ⟨b, h1, h2, hp b h3⟩) h
theorem VwR.grn (h : VwR w P v f) {g : Nat} (k : Grn g w w') (hg : ¬ P g) : VwR w' P v f := Or.imp id (fun ⟨b, h1, h2, h3⟩ => ⟨b, h1, by
 obtain ⟨D, n, q1, q2⟩ := h2
 exact ⟨D, n, q1.kept k (by intro he; simp at he; subst he; exact hg h3), q2⟩, h3⟩) h
theorem VwR.kp (h : VwR w P v f) (k : KpB P w w') : VwR w' P v f := Or.imp id (fun ⟨b, h1, h2, h3⟩ => ⟨b, h1, by
 obtain ⟨D, n, ⟨es, clock, q1, q2⟩, q3⟩ := h2
 exact ⟨D, n, ⟨es, clock, k.2.2 b es clock q1, q2⟩, q3⟩, h3⟩) h
theorem VwR.bnd (h : VwR w P v f) : VwR w (fun b => P b ∧ b < w.heap.size) v f := Or.imp id (fun ⟨b, h1, h2, h3⟩ => ⟨b, h1, h2, h3, by obtain ⟨D, n, q1, _⟩ := h2; exact q1.lt⟩) h
theorem VwR.newM {D : List TypeId} (h : VwR w' (fun b => P b ∨ w.heap.size ≤ b) v f) : VwR w' (fun b => P b ∨ NewB D w w' b) v f := Or.imp id (fun ⟨b, h1, h2, h3⟩ => ⟨b, h1, h2, h3.imp id (fun h => ⟨h, by obtain ⟨D', n, ⟨es, clock, q1, q2⟩, q3⟩ := h2; exact ⟨_, q1, trivial⟩⟩)⟩) h
theorem VwR.shape (h : VwR w P v f) : ∃ q, v = .map q := by
 rcases h with ⟨rfl, _⟩ | ⟨b, rfl, _⟩
 ·exact ⟨none, rfl⟩
 ·exact ⟨some b, rfl⟩
theorem VwR.zero (w : World) (P : Nat → Prop) : VwR w P (.map none) (fun _ => 0) := .inl ⟨rfl, fun _ => rfl⟩
theorem VwR.out (h : VwR w P v f) {x : Int} (hx : ¬ (0 ≤ x ∧ x < 4096)) : f x = 0 := by
 rcases h with ⟨_, h⟩ | ⟨b, _, ⟨D, n, _, _, _, h, _⟩, _⟩
 ·exact h x
 ·exact h x hx
abbrev VwT (w : World) (v : Value) (f : Int → Nat) : Prop := VwR w (fun _ => True) v f
theorem VwR.any (h : VwR w P v f) : VwT w v f := h.imp (fun _ _ => trivial)
theorem VwR.kpm (h : VwR w P v f) {P' : Nat → Prop} (k : KpB P' w w') : VwR w' P v f := Or.imp id (fun ⟨b, h1, h2, h3⟩ => ⟨b, h1, by
 obtain ⟨D, n, ⟨es, clock, q1, q2⟩, q3⟩ := h2
 exact ⟨D, n, ⟨es, clock, k.2.2 b es clock q1, q2⟩, q3⟩, h3⟩) h
theorem vw_zero (w : World) : (zeroValue 3).run Tryz.prog w = .ok (.int .i64 0) w := by kernel_rfl
theorem VwR.look (h : VwR w P v f) (x : Int) (hx : (Lit.int .i64 x).wf = true) : (Instr.lookup 177 v (.int .i64 x) false).run Tryz.prog w = .ok (.int .i64 (f x)) w := by
 rcases h with ⟨rfl, h⟩ | ⟨b, rfl, ⟨D, n, h1, h2, _⟩, _⟩
 ·rw [Maps.look_nil false locK Tryz.underlying177 (vw_zero w) (keyOf_int_mk Tryz.underlying42 hx), h]
  rfl
 ·obtain ⟨c, hrun, hat, _⟩ := h1.lookup_int locK Tryz.underlying177 Tryz.underlying3 (vw_zero w) (keyOf_int_mk Tryz.underlying42 hx)
  rw [h2 x hx] at hat
  simp only [DataW.lit.injEq, Lit.int.injEq, true_and] at hat
  rw [hrun, hat]
theorem vw_get {ops : Array Oper} {rest : List Oper} {o : Oper} {a : Act} {Q : Exit → Act → World → Prop} (hgd : Region.wanted o (yielded ops a.tmps) = true) (m x : Operand) (hop : o.op = Op.lookup 177 m x false)
 (hm : a.eval m = v) (h : VwR w P v f) (key : Int) (hkey : (Lit.int .i64 key).wf = true) (hx : a.eval x = .int .i64 key) (hr : wpList Tryz.prog ops Q rest (a.put o.dst (.int .i64 (f key))) w) : wpList Tryz.prog ops Q (o :: rest) a w := by
 refine wpList_step fun K' hK' => ?_
 rw [if_pos hgd]
 unfold Oper.wp
 simp [execOp, hop, hm, hx, h.look key hkey, Result.andThen]
 exact hK' _ _ hr
theorem VwR.len (h : VwR w P v f) (ty : TypeId) : ∃ n : Nat, (Builtin.len_ #[177] ty #[v]).run Tryz.prog w = .ok (.int .i64 n) w ∧ (n = 0 → ∀ x, f x = 0) ∧ (n ≠ 0 → ∃ b, v = .map (some b)) := by
 rcases h with ⟨rfl, h⟩ | ⟨b, rfl, ⟨D, n, h1, h2, h3, h4, h5⟩, _⟩
 ·exact ⟨0, Maps.len_nil Tryz.underlying177 ty, fun _ => h, fun h => absurd rfl h⟩
 ·refine ⟨_, h1.len Tryz.underlying177 ty, fun h0 x => ?_, fun _ => ⟨b, rfl⟩⟩
  by_cases hx : 0 ≤ x ∧ x < 4096
  ·have hw : (Lit.int .i64 x).wf = true := by simp [Lit.wf, IntKind.min, IntKind.max, IntKind.signed, IntKind.bits]; omega
   have e := h2 x hw
   obtain ⟨es, rfl⟩ := h1.isMap
   rw [size_eq] at h0
   obtain rfl := List.length_eq_zero_iff.1 h0
   have : (DataW.map [] : DataW Unit).atKey (.int .i64 x) (.lit (.int .i64 0)) = .lit (.int .i64 0) := rfl
   rw [this] at e
   simp only [DataW.lit.injEq, Lit.int.injEq, true_and] at e
   omega
  ·exact h4 x hx
end
theorem wf64 {x : Int} (h1 : -9223372036854775808 ≤ x) (h2 : x ≤ 9223372036854775807) : (Lit.int .i64 x).wf = true := by simp [Lit.wf, IntKind.min, IntKind.max, IntKind.signed, IntKind.bits]; omega
theorem own_tight {w : World} {b n : Nat} {D : DataW Unit} (h : VwD w b n D) : VwD w b (Maps.size D) D := by
 obtain ⟨es, clock, hb, F, hs, rfl⟩ := h
 exact ⟨es, clock, hb, F, by rw [size_eq]; exact Nat.le_of_eq (length_read es).symm, rfl⟩
theorem ext_grown {W w w' : World} {b : Nat} (hW : Ext W w) (hb : W.heap.size ≤ b) (hg : w.grownBy w' (some b)) : Ext W w' :=
 Ext.of_below ((hW.below).grown hg hW.size (fun i hi => by cases hi; exact hb))
theorem VwM.kept {w w' : World} {b : Nat} {f : Int → Nat} {row : Option Nat} (h : VwM w b f) (hg : w.grownBy w' row) (hne : some b ≠ row) : VwM w' b f := by
 obtain ⟨D, n, h1, h2⟩ := h
 exact ⟨D, n, h1.kept hg hne, h2⟩
theorem VwM.cell {w : World} {b : Nat} {f : Int → Nat} (h : VwM w b f) {a : Addr} (ha : b ≠ a.block) (u : Value) : VwM (w.setCell a u) b f := by
 obtain ⟨D, n, h1, h2⟩ := h
 exact ⟨D, n, h1.setCell ha u, h2⟩
theorem VwM.lt {w : World} {b : Nat} {f : Int → Nat} (h : VwM w b f) : b < w.heap.size := by
 obtain ⟨D, n, h1, _⟩ := h; exact h1.lt
theorem VwM.made (w : World) (b : Nat) (hb : b = w.heap.size) : VwM (w.alloc (.map #[] 0)) b (fun _ => 0) := by
 subst hb
 exact ⟨.map [], 0, World.ownsMap_made w _ _ _, fun _ _ => rfl, fun kl h => by simp [has] at h, fun _ _ => rfl, fun _ => Nat.zero_le _⟩
theorem VwM.clone {w : World} {b : Nat} {f : Int → Nat} (h : VwM w b f) : ∃ es clock, w.heap[b]? = some (.map es clock) ∧ VwM (w.alloc (.map es clock)) w.heap.size f := by
 obtain ⟨D, n, ⟨es, clock, hb, F, hs, hD⟩, h2⟩ := h
 exact ⟨es, clock, hb, D, n, ⟨es, clock, (MapKept.heap_alloc w _).1, F, hs, hD⟩, h2⟩
theorem VwM.put {w w' : World} {b : Nat} {f : Int → Nat} {D : DataW Unit} {n m : Nat} (key : Int) (hk : 0 ≤ key ∧ key < 4096) (c : Nat) (hc : 0 < c ∧ c ≤ 1000000) (h1 : VwD w b n D) (h2 : ∀ x : Int, (Lit.int .i64 x).wf = true → D.atKey (.int .i64 x) (.lit (.int .i64 0)) = .lit (.int .i64 (f x)))
 (h3 : ∀ kl, has D kl = true → ∃ x : Int, kl = .int .i64 x ∧ 0 ≤ x ∧ x < 4096 ∧ 0 < f x) (h4 : ∀ x : Int, ¬ (0 ≤ x ∧ x < 4096) → f x = 0) (h5 : ∀ x, f x ≤ 1000000) (h : VwD w' b m (D.put (.int .i64 key) (.lit (.int .i64 c)))) : VwM w' b (fun y => if y = key then c else f y) := by
 refine ⟨_, m, h, fun x hx => ?_, fun kl hkl => ?_, fun x hx => ?_, fun x => ?_⟩ <;> dsimp only
 ·by_cases hxk : x = key
  ·subst hxk; rw [if_pos rfl, atKey_put_same h1.isMap (show WideAt.IsKeyLit (.int .i64 x) from trivial)]
  ·rw [if_neg hxk, atKey_put_other (by intro h9; exact hxk (by simpa using h9)), h2 x hx]
 ·by_cases hkk : kl = .int .i64 key
  ·exact ⟨key, hkk, hk.1, hk.2, by simpa using hc.1⟩
  ·rw [has_put_other hkk] at hkl
   obtain ⟨x, e, x0, x1, x2⟩ := h3 kl hkl
   refine ⟨x, e, x0, x1, ?_⟩
   rw [if_neg (by intro h9; exact hkk (by rw [e, h9]))]; exact x2
 ·rw [if_neg (by intro h9; rw [h9] at hx; exact hx hk)]; exact h4 x hx
 ·split
  ·exact hc.2
  ·exact h5 x
theorem vw_put {w : World} {b : Nat} {f : Int → Nat} {ops : Array Oper} {rest : List Oper} {o : Oper} {a : Act} {Q : Exit → Act → World → Prop} (hgd : o.guard = none) (m x v : Operand) (hop : o.op = Op.mapUpdate 177 m x v)
 (W : World) (hW : Ext W w) (hWb : W.heap.size ≤ b) (hm : a.eval m = .map (some b)) (h : VwM w b f) (key : Int) (hk : 0 ≤ key ∧ key < 4096) (c : Nat) (hc : 0 < c ∧ c ≤ 1000000) (hx : a.eval x = .int .i64 key) (hv : a.eval v = .int .i64 c)
 (hr : ∀ w', Ext W w' → VwM w' b (fun y => if y = key then c else f y) → w.grownBy w' (some b) → wpList Tryz.prog ops Q rest (a.put o.dst undef) w') : wpList Tryz.prog ops Q (o :: rest) a w := by
 obtain ⟨D, n, h1, h2, h3, h4, h5⟩ := h
 have hsz := vw_size h1 (fun kl hkl => by obtain ⟨x, e, x0, x1, _⟩ := h3 kl hkl; exact ⟨x, e, x0, x1⟩)
 refine wpList_mapUpdate_own w hgd m x v _ hop _ _ locK Tryz.underlying177 _ b _ D hm (own_tight h1) (by unfold maxLen; omega) _ _ (.int .i64 key) hx hv (keyOf_int_mk Tryz.underlying42 (wf64 (by omega) (by omega))) (.lit (.int .i64 c)) [] (plainElem_int Tryz.underlying3 (wf64 (by omega) (by omega))) ?_
 intro w' hown' hg
 exact hr w' (ext_grown hW hWb hg) (VwM.put key hk c hc h1 h2 h3 h4 h5 hown') hg
theorem VwD.of {w w' : World} {b n : Nat} {D : DataW Unit} (h : VwD w b n D) (he : Ext w w') : VwD w' b n D := by
 obtain ⟨r, rfl⟩ := he
 exact h.kept (row := none) ⟨rfl, rfl, rfl, by simp, fun i hi _ => heap_ext w r i hi⟩ (by simp)
set_option maxRecDepth 100000 in
theorem vclone_any {w : World} {v : Value} {f : Int → Nat} {P : Nat → Prop} (h : VwR w P v f) : Calls Tryz.prog 169 #[v] w fun e w' => ∃ v', e = .returned v' ∧ Ext w w' ∧ ((v = .map none ∧ v' = .map none ∧ ∀ x, f x = 0) ∨ ∃ b, v' = .map (some b) ∧ w.heap.size ≤ b ∧ VwM w' b f) := by
 rcases h with ⟨rfl, h⟩ | ⟨b, rfl, hb, _⟩
 ·have hq := fun w => run_eql_map_nil_sl (P := Tryz.prog) w 177 _ _ none Tryz.underlying177
  have H := hid h
  clear h
  go_enter Tryz.func169, Tryz.ntmps169
  go_wp2_with fail
  go_ret
  refine ⟨.map none, rfl, by exact exP, .inl ?_⟩; simp; exact H.out
 ·have hq := fun w => run_eql_map_nil_sl (P := Tryz.prog) w 177 _ _ (some b) Tryz.underlying177
  obtain ⟨es, clock, hes, hc⟩ := hb.clone
  have HC := hid hc
  have HE := hid hes
  clear hb hc hes
  go_enter Tryz.func169, Tryz.ntmps169
  go_wp2
  rw [run_callFunc_extern Tryz.func141 (by kernel_rfl) (by kernel_rfl) (by kernel_rfl) (e := Extern.MapsClone.clone) (by kernel_rfl), run_maps_clone_sl w 177 HE.out]
  simp only [Result.andThen]
  rw [Oper.upon_value]
  go_wp2
  rw [run_typeAssert_map_sl _ 177 _ _ _ _ Tryz.underlying177]
  simp only [Result.andThen]
  rw [Oper.upon_value]
  go_wp2
  go_ret
  exact ⟨.map (some w.heap.size), rfl, by exact exP, .inr ⟨_, rfl, Nat.le_refl _, HC.out⟩⟩
set_option maxRecDepth 100000 in
theorem vat_any {w : World} {v : Value} {f : Int → Nat} {P : Nat → Prop} (h : VwR w P v f) (l : Int) (hl : (Lit.int .i64 l).wf = true) : Calls Tryz.prog 161 #[.agg #[v], .int .i64 l] w fun e w' => e = .returned (.int .i64 (f l)) ∧ ∃ r, w' = ext w r := by
 have H := hid h
 rcases h with ⟨rfl, h0⟩ | ⟨b, rfl, _, _⟩
 ·clear h0
  go_enter Tryz.func161, Tryz.ntmps161
  go_wp2_with (at_lookup; refine vw_get rfl _ _ rfl rfl (H.out.of (by exact exP)) l hl rfl ?_)
  go_ret
  exact ⟨rfl, by exact exP⟩
 ·go_enter Tryz.func161, Tryz.ntmps161
  go_wp2_with (at_lookup; refine vw_get rfl _ _ rfl rfl (H.out.of (by exact exP)) l hl rfl ?_)
  go_ret
  exact ⟨rfl, by exact exP⟩
def vWith (f : Int → Nat) (l : Int) (n : Nat) : Int → Nat := if l < 0 ∨ 4096 ≤ l ∨ n ≤ f l then f else fun y => if y = l then n else f y
set_option maxHeartbeats 1000000 in
theorem vwith_any {w : World} {v : Value} {f : Int → Nat} {P : Nat → Prop} (h : VwR w P v f) (l : Int) (hl : (Lit.int .i64 l).wf = true) (n : Nat) (hn : n ≤ 1000000) :
 Calls Tryz.prog 155 #[.agg #[v], .int .i64 l, .int .i64 n] w fun e w' => ∃ v', e = .returned (.agg #[v']) ∧ Ext w w' ∧ VwR w' (fun b => P b ∨ w.heap.size ≤ b) v' (vWith f l n) := by
 have hmm := @run_makeMap Tryz.prog
 have hq := fun w p => run_eql_map_nil_sl (P := Tryz.prog) w 177 _ _ p Tryz.underlying177
 have H := hid h
 obtain ⟨q, hvq⟩ : ∃ q, v = .map q := by
  rcases h with ⟨rfl, _⟩ | ⟨b, rfl, _⟩
  ·exact ⟨none, rfl⟩
  ·exact ⟨some b, rfl⟩
 subst hvq
 clear h
 by_cases h1 : l < 0
 ·have hW := hid (show vWith f l n = f by unfold vWith; rw [if_pos (.inl h1)])
  go_enter Tryz.func155, Tryz.ntmps155
  (repeat (first | go_values | go_skip | go_guarded | go_step | go_upon | (simp only [Int.not_lt, Int.not_le] at *; go_simp) | (go_ite <;> go_prune <;> (try go_simp))))
  exact bodyPost_ret (v := .agg #[.map q]) (by simp [results, Tryz.results155, go_sem]) rfl ⟨_, rfl, by exact exP, by rw [hW.out]; exact (H.out.of (by exact exP)).imp (fun _ h => .inl h)⟩
 by_cases h2 : 4096 ≤ l
 ·have hW := hid (show vWith f l n = f by unfold vWith; rw [if_pos (.inr (.inl h2))])
  go_enter Tryz.func155, Tryz.ntmps155
  (repeat (first | go_values | go_skip | go_guarded | go_step | go_upon | (simp only [Int.not_lt, Int.not_le] at *; go_simp) | (go_ite <;> go_prune <;> (try go_simp))))
  exact bodyPost_ret (v := .agg #[.map q]) (by simp [results, Tryz.results155, go_sem]) rfl ⟨_, rfl, by exact exP, by rw [hW.out]; exact (H.out.of (by exact exP)).imp (fun _ h => .inl h)⟩
 have h1d : decide (l < 0) = false := decide_eq_false h1
 have h2d : decide (4096 ≤ l) = false := decide_eq_false h2
 obtain ⟨u, hu⟩ : ∃ u, u = f l := ⟨_, rfl⟩
 have HU := hid hu
 by_cases h3 : n ≤ f l
 ·have hW := hid (show vWith f l n = f by unfold vWith; rw [if_pos (.inr (.inr h3))])
  rw [← hu] at h3
  have h3i : (n : Int) ≤ (u : Int) := by omega
  clear h3 hu
  go_enter Tryz.func155, Tryz.ntmps155
  go_wp2_with (at_lookup; refine vw_get (by first | rfl | simp [Region.wanted, yielded]) _ _ rfl rfl (H.out.of (by exact exP)) l hl rfl ?_; rw [← HU.out])
  (repeat (first | go_values | go_skip | go_guarded | go_step | go_upon | (simp only [Int.not_lt, Int.not_le] at *; go_simp) | (go_ite <;> go_prune <;> (try go_simp))))
  exact bodyPost_ret (v := .agg #[.map q]) (by simp [results, Tryz.results155, go_sem]) rfl ⟨_, rfl, by exact exP, by rw [hW.out]; exact (H.out.of (by exact exP)).imp (fun _ h => .inl h)⟩
 ·have hW := hid (show vWith f l n = fun y => if y = l then n else f y by unfold vWith; rw [if_neg (by omega)])
  rw [← hu] at h3
  have h3i : ¬ (n : Int) ≤ (u : Int) := by omega
  have hnp := hid (show 0 < n ∧ n ≤ 1000000 from ⟨by omega, hn⟩)
  have hlr := hid (show 0 ≤ l ∧ l < 4096 by omega)
  clear h3 hu
  go_enter Tryz.func155, Tryz.ntmps155
  go_wp2_with (at_lookup; refine vw_get (by first | rfl | simp [Region.wanted, yielded]) _ _ rfl rfl (H.out.of (by exact exP)) l hl rfl ?_; rw [← HU.out])
  refine (vclone_any (H.out.of (by exact exP))).mono ?_
  rintro e w' ⟨v', rfl, he, hv⟩
  have HE := hid (Ext.trans (show Ext w _ by exact exP) he)
  have HB := hid ((show Blk _ (w.heap.size + 1) [.map none] by exact bkP).of he)
  clear he
  rcases hv with ⟨_, rfl, h0⟩ | ⟨b, rfl, hb1, hb2⟩
  ·have h0 := hid h0
   have hc := HB.out.2.2 0 _ rfl
   have hcf := HB.out.2.1 0
   have hcs := HB.out.1
   go_wp2_with (at_mapUpdate; refine vw_put rfl _ _ _ rfl w (HE.out.trans (by exact exP)) HE.out.size rfl (VwM.made _ _ rfl) l hlr.out n hnp.out rfl rfl ?_; intro w2 hE2 hM2 hg2; have HE2 := hid hE2; have HM2 := hid hM2; have HB2 := hid ((HB.out.alloc _).gro hg2 (by simp; omega)); have y0 := HB2.out.2.2 0 _ rfl; have y1 := HB2.out.2.1 0; have y2 := HB2.out.1)
   (repeat (first | go_values | go_skip | go_guarded | go_step | go_upon | (simp only [Int.not_lt, Int.not_le] at *; go_simp) | (go_ite <;> go_prune <;> (try go_simp))))
   exact bodyPost_ret (v := .agg #[.map (some w'.heap.size)]) (by simp [results, Tryz.results155, go_sem, y0, y1, y2]) rfl ⟨_, rfl, by (show Ext _ _; repeat first | (with_reducible first | (refine xH ?_; assumption) | exact xR _ | refine xX ?_ _ | refine xA ?_ _) | refine xD ?_ | refine xN ?_ _ | refine xS ?_ (by (try dsimp only); first | omega | (simp; done) | (simp; omega)) _), .inr ⟨_, rfl, by rw [hW.out, show (fun y => if y = l then n else f y) = fun y => if y = l then n else 0 by funext y; rw [h0.out y]]; exact HM2.out.cell (by simp; omega) _, .inr (by have := HE.out.size; omega)⟩⟩
  ·have hc := HB.out.2.2 0 _ rfl
   have hcf := HB.out.2.1 0
   have hcs := HB.out.1
   have HM := hid hb2
   have HL := hid hb1
   clear hb1 hb2
   go_wp2_with (at_mapUpdate; refine vw_put rfl _ _ _ rfl w HE.out (by have := HL.out; simp at this; omega) rfl HM.out l hlr.out n hnp.out rfl rfl ?_; intro w2 hE2 hM2 hg2; have HE2 := hid hE2; have HM2 := hid hM2; have HB2 := hid (HB.out.gro hg2 (by have := HL.out; simp at this ⊢; omega)); have y0 := HB2.out.2.2 0 _ rfl; have y1 := HB2.out.2.1 0; have y2 := HB2.out.1)
   (repeat (first | go_values | go_skip | go_guarded | go_step | go_upon | (simp only [Int.not_lt, Int.not_le] at *; go_simp) | (go_ite <;> go_prune <;> (try go_simp))))
   exact bodyPost_ret (v := .agg #[.map (some b)]) (by simp [results, Tryz.results155, go_sem, y0, y1, y2]) rfl ⟨_, rfl, by (show Ext _ _; repeat first | (with_reducible first | (refine xH ?_; assumption) | exact xR _ | refine xX ?_ _ | refine xA ?_ _) | refine xD ?_ | refine xN ?_ _ | refine xS ?_ (by (try dsimp only); first | omega | (simp; done) | (simp; omega)) _), .inr ⟨_, rfl, by rw [hW.out]; exact HM2.out.cell (by have := HL.out; simp at this ⊢; omega) _, .inr (by have := HL.out; simp at this; omega)⟩⟩
def vJoin (f g : Int → Nat) : Int → Nat := fun x => max (f x) (g x)
set_option maxRecDepth 100000 in
set_option maxHeartbeats 1000000 in
theorem vjoin_any {w : World} {v u : Value} {f g : Int → Nat} {P : Nat → Prop} (h : VwR w P v f) (k : VwR w P u g) :
 Calls Tryz.prog 171 #[.agg #[v], .agg #[u]] w fun e w' => ∃ v', e = .returned (.agg #[v']) ∧ Ext w w' ∧ VwR w' (fun b => P b ∨ w.heap.size ≤ b) v' (vJoin f g) := by
 have H := hid h
 have K := hid k
 have hvq : ∃ q, v = .map q := by
  rcases h with ⟨rfl, _⟩ | ⟨b, rfl, _⟩
  ·exact ⟨none, rfl⟩
  ·exact ⟨some b, rfl⟩
 rcases k with ⟨rfl, hg⟩ | ⟨b, rfl, hb, _⟩
 ·have hj := hid (show vJoin f g = f by unfold vJoin; funext x; rw [hg]; exact Nat.max_eq_left (Nat.zero_le _))
  have hl := fun w ty => Maps.len_nil (P := Tryz.prog) (w := w) Tryz.underlying177 ty
  clear hg h
  obtain ⟨q, rfl⟩ := hvq
  go_enter Tryz.func171, Tryz.ntmps171
  (repeat (first | go_values | go_skip | go_guarded | go_step | go_upon | (simp only [Int.not_lt, Int.not_le] at *; go_simp) | (go_ite <;> go_prune <;> (try go_simp))))
  exact bodyPost_ret (v := .agg #[.map q]) (by simp [results, Tryz.results171, go_sem]) rfl ⟨_, rfl, by exact exP, by rw [hj.out]; exact (H.out.of (by exact exP)).imp (fun _ h => .inl h)⟩
 obtain ⟨Du, nu, h1, h2, h3, h4, h5⟩ := id hb
 have HD := hid h1
 by_cases hz : Maps.size Du = 0
 ·have hj := hid (show vJoin f g = f by
   obtain ⟨n, h6, h7, _⟩ := K.out.len 0
   have h8 := h1.len Tryz.underlying177 0
   rw [h6] at h8
   simp only [Result.ok.injEq, Value.int.injEq, true_and, and_true] at h8
   have hg := h7 (by omega)
   unfold vJoin; funext x; rw [hg]; exact Nat.max_eq_left (Nat.zero_le _))
  clear h h1 h2 h3 h4 h5 hb
  have hz' : ((Maps.size Du : Nat) : Int) = 0 := by omega
  obtain ⟨q, rfl⟩ := hvq
  go_enter Tryz.func171, Tryz.ntmps171
  go_wp2_with (at_len; refine wpList_len_own _ rfl _ _ rfl _ _ Tryz.underlying177 _ b nu Du rfl (HD.out.of (by exact exP)) ?_)
  (repeat (first | go_values | go_skip | go_guarded | go_step | go_upon | (simp only [Int.not_lt, Int.not_le] at *; go_simp) | (go_ite <;> go_prune <;> (try go_simp))))
  exact bodyPost_ret (v := .agg #[.map q]) (by simp [results, Tryz.results171, go_sem]) rfl ⟨_, rfl, by exact exP, by rw [hj.out]; exact (H.out.of (by exact exP)).imp (fun _ h => .inl h)⟩
 have hz' : ¬ ((Maps.size Du : Nat) : Int) = 0 := by omega
 clear h1 h2 h3 h4 h5 hb
 rcases h with ⟨rfl, hf⟩ | ⟨c, rfl, hc, _⟩
 ·have hj := hid (show vJoin f g = g by unfold vJoin; funext x; rw [hf]; exact Nat.max_eq_right (Nat.zero_le _))
  have hr0 := fun w => run_range_nilMap (P := Tryz.prog) w 177 _ _ Tryz.underlying177
  have hr1 := fun w ty => run_next_nilMap (P := Tryz.prog) w ty 0 0 #[]
  clear hf hvq
  go_enter Tryz.func171, Tryz.ntmps171
  go_wp2_with (at_len; refine wpList_len_own _ rfl _ _ rfl _ _ Tryz.underlying177 _ b nu Du rfl (HD.out.of (by exact exP)) ?_)
  refine (vclone_any (K.out.of (by exact exP))).mono ?_
  rintro e w' ⟨v', rfl, he, hv⟩
  have HE := hid (Ext.trans (show Ext w _ by exact exP) he)
  have HB := hid ((show Blk _ (w.heap.size + 1 + 1) [.map none] by exact bkP).of he)
  have HA := hid ((show Blk _ w.heap.size [.map none] by exact bkP).of he)
  clear he
  rcases hv with ⟨h0, _⟩ | ⟨d, rfl, hb1, hb2⟩
  ·cases h0
  have HM := hid hb2
  have hc := HB.out.2.2 0 _ rfl
  have hcf := HB.out.2.1 0
  have hcs := HB.out.1
  have ha := HA.out.2.2 0 _ rfl
  have has_ := HA.out.1
  have HL := hid hb1
  clear hb1 hb2
  go_wp2_with fail
  refine wp_loop_rounds 1 ?_
  rw [rounds_succ]
  (repeat (first | go_values | go_skip | go_guarded | go_step | go_upon | (simp only [Int.not_lt, Int.not_le] at *; go_simp) | (go_ite <;> go_prune <;> (try go_simp))))
  exact bodyPost_ret (v := .agg #[.map (some d)]) (by simp [results, Tryz.results171, go_sem, hc, hcf, hcs]) rfl ⟨_, rfl, by (show Ext _ _; repeat first | (with_reducible first | (refine xH ?_; assumption) | exact xR _ | refine xX ?_ _ | refine xA ?_ _) | refine xD ?_ | refine xN ?_ _ | refine xS ?_ (by (try dsimp only); first | omega | (simp; done) | (simp; omega)) _), .inr ⟨d, rfl, by rw [hj.out]; exact (VwM.cell HM.out (a := ⟨w.heap.size + 1 + 1, 0, none⟩) (by have := HL.out; simp at this ⊢; omega) (.map (some d))).of (Ext.of_alloc _ _), .inr (by have := HL.out; simp at this; omega)⟩⟩
 ·obtain ⟨Dv, nv, k1, k2, k3, k4, k5⟩ := id hc
  have HV := hid k1
  have hfz : ∀ x, f x ≤ 1000000 := k5
  have hrd := hid (show ∀ x : Int, (Lit.int .i64 x).wf = true → has Dv (.int .i64 x) = true → 0 < f x ∧ 0 ≤ x ∧ x < 4096 from fun x _ h => by
   obtain ⟨y, e, y0, y1, y2⟩ := k3 _ h
   obtain rfl : x = y := by simpa using e
   exact ⟨y2, y0, y1⟩)
  have hnot := hid (show ∀ x : Int, has Dv (.int .i64 x) = false → f x = 0 from fun x h => by
   by_cases hx : 0 ≤ x ∧ x < 4096
   ·have e := k2 x (wf64 (by omega) (by omega))
    rw [atKey_of_not_has h] at e
    simp only [DataW.lit.injEq, Lit.int.injEq, true_and] at e
    omega
   ·exact k4 x hx)
  have hat := hid k2
  have hbd := hid k5
  clear hvq k1 k2 k3 k4 k5 hfz hc
  go_enter Tryz.func171, Tryz.ntmps171
  go_wp2_with (at_len; refine wpList_len_own _ rfl _ _ rfl _ _ Tryz.underlying177 _ b nu Du rfl (HD.out.of (by exact exP)) ?_)
  refine (vclone_any (K.out.of (by exact exP))).mono ?_
  rintro e w' ⟨v', rfl, he, hv⟩
  have HE := hid (Ext.trans (show Ext w _ by exact exP) he)
  have HB := hid ((show Blk _ (w.heap.size + 1 + 1) [.map none] by exact bkP).of he)
  have HA := hid ((show Blk _ w.heap.size [.map (some c)] by exact bkP).of he)
  clear he
  rcases hv with ⟨h0, _⟩ | ⟨d, rfl, hb1, hb2⟩
  ·cases h0
  have HM := hid hb2
  have hc := HB.out.2.2 0 _ rfl
  have hcf := HB.out.2.1 0
  have hcs := HB.out.1
  have ha := HA.out.2.2 0 _ rfl
  have has_ := HA.out.1
  have HL := hid hb1
  clear hb1 hb2
  go_wp2_with (at_range; refine wpList_range_own _ rfl _ _ rfl _ _ locK Tryz.underlying177 _ c nv Dv rfl (HV.out.of HE.out) ?_; intro w0 hrg0 hg0 hs0)
  go_frame
  obtain ⟨r, hr⟩ : ∃ r, r = w'.heap.size := ⟨_, rfl⟩
  rw [← hr] at hrg0 hs0 ⊢
  have HR := hid hr
  have HLd := hid (show w.heap.size + 3 ≤ d from by have := HL.out; simp at this; omega)
  have hx0 := Ext.of_below ((HE.out.below).grown hg0 HE.out.size (fun i hi => by cases hi))
  have HX0 := hid hx0
  have HM0 := hid (HM.out.kept hg0 (by simp))
  have HB0 := hid (HB.out.gro hg0 (by simp))
  have HDl := hid HM.out.lt
  have HRg := hid hrg0
  have HS0 := hid hs0
  clear hr hx0 hrg0 hg0 hs0 hc hcf hcs ha has_ HB HA HM
  go_loopw [6, 7] (fun _ _ wr => ∃ (left : Lit → Bool) (cnt : Nat) (gg : Int → Nat), Hid (wr.ranges Tryz.prog 42 (plainElem Tryz.prog 3) c r nv Dv left cnt) ∧ Hid (VwM wr d gg) ∧ Hid (∀ x : Int, 0 ≤ x → x < 4096 → gg x = if left (.int .i64 x) = true then g x else max (f x) (g x)) ∧ Hid (Blk wr (w.heap.size + 1 + 1) [.map none]) ∧ Hid (Ext w wr)) (fun _ _ wr => wr.rangeLeft c r)
  case atStart => exact ⟨_, _, g, HRg, HM0, hid (fun x h0 h1 => by
   by_cases hh : has Dv (.int .i64 x) = true
   ·rw [if_pos hh]
   ·have := hnot.out x (by simpa using hh)
    rw [if_neg hh, this]; exact (Nat.max_eq_right (Nat.zero_le _)).symm), HB0, HX0⟩
  case round =>
   clear HRg HM0 HB0 HX0
   obtain ⟨left, cnt, gg, HRg, HM, HG, HB, HX⟩ := hrel
   have hc := HB.out.2.2 0 _ rfl
   have hcf := HB.out.2.1 0
   have hcs := HB.out.1
   go_wp2_with (at_next; refine wpList_next_ranges_ii _ rfl _ rfl _ _ .i64 .i64 locK Tryz.underlying42 Tryz.underlying3 c r nv _ _ _ rfl HRg.out ?_ ?_)
   ·intro hc0 hl0
    have HL0 := hid hl0
    clear hl0 hc0
    (repeat (first | go_values | go_skip | go_guarded | go_step | go_upon | (simp only [Int.not_lt, Int.not_le] at *; go_simp) | (go_ite <;> go_prune <;> (try go_simp))))
    exact bodyPost_ret (v := .agg #[.map (some d)]) (by simp [results, Tryz.results171, go_sem, hc, hcf, hcs]) rfl ⟨_, rfl, by (show Ext _ _; repeat first | (with_reducible first | (refine xH ?_; assumption) | exact xR _ | refine xX ?_ _ | refine xA ?_ _) | refine xD ?_ | refine xN ?_ _ | refine xS ?_ (by (try dsimp only); first | omega | (simp; done) | (simp; omega)) _), .inr ⟨d, rfl, by
     have e : gg = vJoin f g := by
      funext x
      by_cases hx : 0 ≤ x ∧ x < 4096
      ·rw [HG.out x hx.1 hx.2, HL0.out]; rfl
      ·obtain ⟨_, _, _, _, _, hz4, _⟩ := HM.out
       rw [hz4 x hx]
       unfold vJoin
       rw [VwR.out H.out hx, VwR.out K.out hx]; rfl
     rw [← e]
     exact VwM.cell HM.out (by have := HLd.out; show d ≠ w.heap.size + 1 + 1; omega) _, .inr (by have := HLd.out; omega)⟩⟩
   ·intro x cc w1 cnt1 hwx hwc hlx hat1 hrg1 hlt hg1 hs1 hen
    have hM1 := hid (HM.out.kept hg1 (by have := HR.out; have := HDl.out; simp; omega))
    have HB1 := hid (HB.out.gro hg1 (by have := HR.out; have := HDl.out; have := HLd.out; simp; omega))
    have HX1 := hid (ext_grown HX.out (by have := HR.out; have := HDl.out; have := HLd.out; omega) hg1)
    obtain ⟨hf0, x0, x1⟩ := hrd.out x hwx (has_true_of_atKey hat1)
    obtain rfl : cc = ((f x : Nat) : Int) := by
     have e1 := hat1 (.lit (.int .i64 0))
     rw [hat.out x hwx] at e1
     simpa using e1.symm
    obtain ⟨n1, hn1⟩ : ∃ n, n = gg x := ⟨_, rfl⟩
    obtain ⟨n2, hn2⟩ : ∃ n, n = f x := ⟨_, rfl⟩
    have hmb := hid (show 0 < max n1 n2 ∧ max n1 n2 ≤ 1000000 from by
     have h1 := hbd.out x
     obtain ⟨_, _, _, _, _, _, h2⟩ := hM1.out
     have h2 := h2 x
     omega)
    rw [← hn2] at hen ⊢
    have HN1 := hid hn1
    have HN2 := hid hn2
    have HRg1 := hid hrg1
    have HLT := hid hlt
    have HWX := hid hwx
    have HXX := hid (And.intro x0 x1)
    clear hrg1 hlt hwx hwc hat1 hlx hg1 hs1 hc hcf hcs hn1 hn2 hf0 x0 x1
    go_wp2_with (first
     | (at_lookup; refine vw_get rfl _ _ rfl rfl (show VwR w1 (fun _ => True) (.map (some d)) gg from .inr ⟨d, rfl, hM1.out, trivial⟩) x HWX.out rfl ?_; rw [← HN1.out])
     | (at_mapUpdate; go_loud (refine vw_put rfl _ _ _ rfl w HX1.out (by have := HLd.out; omega) rfl hM1.out x HXX.out (max n1 n2) hmb.out rfl (by show Value.int .i64 (if n1 < n2 then (n2 : Int) else n1) = _; congr 1; split <;> omega) ?_; intro w2 hE2 hM2 hg2; have HE2 := hid hE2; have HM2 := hid hM2; have HG2 := hid hg2; clear hE2 hM2 hg2)))
    all_goals
     have hrl := HR.out
     have hdl := HDl.out
     have hld := HLd.out
     have hcl := HV.out.lt
     have hrg2 := HRg1.out.kept HG2.out (by simp; omega) (by simp; omega)
     go_roundw
     case rel => exact ⟨_, ⟨cnt1, hid hrg2⟩, (fun y => if y = x then max n1 n2 else gg y), HM2, hid (fun y y0 y1 => by
      by_cases hy : y = x
      ·subst hy
       show (if y = y then max n1 n2 else gg y) = _
       rw [if_pos rfl, show (Lit.int .i64 y).sameKey (.int .i64 y) = true from WideAt.sameKey_self trivial]
       simp only [Bool.not_true, Bool.and_false, Bool.false_eq_true, if_false]
       rw [HN1.out, HN2.out, HG.out y y0 y1]
       split
       ·exact Nat.max_comm _ _
       ·omega
      ·show (if y = x then max n1 n2 else gg y) = _
       rw [if_neg hy, HG.out y y0 y1, sameKey_ne (by intro h9; exact hy (by simpa using h9))]
       simp), hid (HB1.out.gro HG2.out (by simp; omega))⟩
     case measure => rw [hrg2.left_eq, HRg.out.left_eq]; exact HLT.out
theorem tyP {D : List TypeId} {w w' : World} (h : TyK D w w' := by (show TyK _ _ _; repeat first | (with_reducible first | exact TyK.refl | refine TyK.ext ?_ _ | refine TyK.alloc ?_ _ | refine TyK.drew ?_ | refine TyK.setCell ?_ _ _ | refine TyK.setRow ?_ _ _) | exact TyK.refl)) : TyK D w w' := h
end Go.Proofs.YtiacdohaiidehaaGreatDoor
