/- Words as data: slices of words, made, read and written; words compared. General laws on append at a slice without spare room: the result is the call's own. No program in sight. General laws, of no program in particular: a region that draws its order, walked once: each operation ahead of the stores is shown by itself, from what those leave for which it waits; what it leaves stays true while memory grows. No condition. -/
import Derived.Test.YtiacdohaiidehaaGreatDoorRows
import Derived.Test.YtiacdohaiidehaaGreatDoorPk01
import Derived.Maps.AppendAt
import Derived.StillTail
namespace Go.Proofs.YtiacdohaiidehaaGreatDoor
set_option linter.unusedSimpArgs false
set_option linter.unusedVariables false
open Go.RowKit
abbrev Wd := Int × Int × Int
def wdE (x : Wd) : List Value := [.int .i64 x.1, .int .u32 x.2.1, .int .u32 x.2.2]
theorem wdE_len (x : Wd) : (wdE x).length = 3 := rfl
def Ws (w : World) (base : Nat) (v : Value) (l : List Wd) : Prop := Own w base 44 3 wdE v l
theorem Tryz.infoWord : (Tryz.prog.info? 44).map (fun i => (i.zero, i.size, i.bytes)) = some (some (.agg #[.int .i64 0, .int .u32 0, .int .u32 0]), 3, 16) := by kernel_rfl
theorem mod3_get (z : Array Value) (hz : z = #[.int .i64 0, .int .u32 0, .int .u32 0]) (n : Nat) : (madeCells z (n * 3)).toList = (List.replicate n ((0, 0, 0) : Wd)).flatMap wdE := by
 subst hz
 apply List.ext_getElem?
 intro i
 by_cases hi : i < n * 3
 ·have h1 : (List.replicate n ((0, 0, 0) : Wd))[i / 3]? = some (0, 0, 0) := by rw [List.getElem?_replicate, if_pos (by omega)]
  have h2 := flat_at wdE_len _ _ _ h1 (i % 3) (Nat.mod_lt _ (by omega))
  rw [show 3 * (i / 3) + i % 3 = i from by omega] at h2
  rw [h2]
  simp only [madeCells, Array.toList_map, Array.toList_range, List.getElem?_map, List.getElem?_range hi, Option.map_some, wdE]
  have h3 : i % 3 = 0 ∨ i % 3 = 1 ∨ i % 3 = 2 := by omega
  rcases h3 with h3 | h3 | h3 <;> simp [h3]
 ·rw [List.getElem?_eq_none (by simp [size_madeCells]; omega), List.getElem?_eq_none]
  have : ∀ m : Nat, ((List.replicate m ((0, 0, 0) : Wd)).flatMap wdE).length = m * 3 := by
   intro m
   induction m with
   | zero => rfl
   | succ m ih => rw [List.replicate_succ, List.flatMap_cons, List.length_append, ih]; simp [wdE]; omega
  rw [this]; omega
theorem mk_words (n : Nat) (hn : n ≤ 100000) (w : World) : (Instr.makeSlice 82 (.int .i64 n) (.int .i64 n)).run Tryz.prog w =
 .ok (.slice (some ⟨w.heap.size, 0, none⟩) n n) (w.alloc (.cells (madeCells #[.int .i64 0, .int .u32 0, .int .u32 0] (n * 3)) 44)) := by
 obtain ⟨i0, hi, hz0, hz1, hz2⟩ := info_parts Tryz.infoWord
 have := run_make (P := Tryz.prog) w 82 44 i0 _ Tryz.underlying82 hi hz0 .i64 .i64 n n (by omega) (by omega) (by rw [hz2]; omega) (by omega)
 have hcs : (Value.agg #[.int .i64 0, .int .u32 0, .int .u32 0]).cells = #[.int .i64 0, .int .u32 0, .int .u32 0] := by simp [Value.cells]
 rw [hz1, hcs] at this
 simpa using this
theorem Ws.made (n : Nat) (hn : n ≤ 100000) (w : World) (base : Nat) (hb : base ≤ w.heap.size) : Ws (w.alloc (.cells (madeCells #[.int .i64 0, .int .u32 0, .int .u32 0] (n * 3)) 44)) base (.slice (some ⟨w.heap.size, 0, none⟩) n n) (List.replicate n (0, 0, 0)) :=
 Own.made _ _ n (by simp) hb (by unfold maxLen; omega) (mod3_get _ rfl n) (by simp [size_madeCells])
theorem Ws.setVal {w : World} {base g n c : Nat} {l : List Wd} (h : Ws w base (.slice (some ⟨g, 0, none⟩) n c) l) {q : Nat} {x : Wd} (hx : l[q]? = some x) (h0 : x.2 = (0, 0)) (y : Int) {o : Nat} (ho : o = q * 3) :
 Ws (w.setCell ⟨g, o, none⟩ (.int .i64 y)) base (.slice (some ⟨g, 0, none⟩) n c) (l.set q (y, 0, 0)) := by
 obtain ⟨x1, x2, x3⟩ := x
 simp only [Prod.mk.injEq] at h0
 obtain ⟨rfl, rfl⟩ := h0
 exact Own.set wdE_len h hx (y, 0, 0) (j := 0) (by omega) _ rfl (by omega)
theorem Ws.cellVal {w : World} {base g n c : Nat} {l : List Wd} (h : Ws w base (.slice (some ⟨g, 0, none⟩) n c) l) {q : Nat} (hq : q < l.length) : ∃ x, l[q]? = some x ∧ w.cell? ⟨g, q * 3, none⟩ = some (.int .i64 x.1) := by
 obtain ⟨g', c', e, _, hc⟩ := Own.cellsAt wdE_len h (List.getElem?_eq_getElem hq)
 simp only [Value.slice.injEq, Option.some.injEq, Addr.mk.injEq] at e
 obtain ⟨⟨rfl, _⟩, _⟩ := e
 refine ⟨_, List.getElem?_eq_getElem hq, ?_⟩
 have := hc 0 (by omega)
 simpa [wdE] using this
theorem Ws.free {w : World} {base g n c : Nat} {l : List Wd} (h : Ws w base (.slice (some ⟨g, 0, none⟩) n c) l) (j : Nat) : w.frozen? ⟨g, j, none⟩ = false := by
 obtain ⟨a, c', e⟩ := Own.shape h
 simp only [Value.slice.injEq] at e
 obtain ⟨_, rfl, _⟩ := e
 exact World.ownsRow.frozenAt (show w.ownsRow base 44 3 _ l.length (l.flatMap wdE) from h) j
def wdB (x k : Wd) : Bool := decide (x = k)
theorem eq_word (x1 x2 x3 k1 k2 k3 : Int) (w : World) : (binOp .eql 44 (.agg #[.int .i64 x1, .int .u32 x2, .int .u32 x3]) (.agg #[.int .i64 k1, .int .u32 k2, .int .u32 k3])).run Tryz.prog w = .ok (.bool (wdB (x1, x2, x3) (k1, k2, k3))) w := by
 unfold wdB
 have hp : Tryz.prog.stoodInHeld 44 = false := by kernel_rfl
 rw [run_eql_struct, run_equalIn_struct w 9999 _ _ _ (by kernel_rfl) hp]
 by_cases h1 : x1 = k1
 ·by_cases h2 : x2 = k2
  ·by_cases h3 : x3 = k3
   all_goals simp [Op.eqFields, Program.fieldsOf, Tryz.underlying44, go_sem, h1, h2, h3]
  ·simp [Op.eqFields, Program.fieldsOf, Tryz.underlying44, go_sem, h1, h2]
 ·simp [Op.eqFields, Program.fieldsOf, Tryz.underlying44, go_sem, h1]
theorem neq_word (x1 x2 x3 k1 k2 k3 : Int) (w : World) : (binOp .neq 44 (.agg #[.int .i64 x1, .int .u32 x2, .int .u32 x3]) (.agg #[.int .i64 k1, .int .u32 k2, .int .u32 k3])).run Tryz.prog w = .ok (.bool (!wdB (x1, x2, x3) (k1, k2, k3))) w := by
 unfold wdB
 have hp : Tryz.prog.stoodInHeld 44 = false := by kernel_rfl
 rw [run_neq_struct, run_equalIn_struct w 9999 _ _ _ (by kernel_rfl) hp]
 by_cases h1 : x1 = k1
 ·by_cases h2 : x2 = k2
  ·by_cases h3 : x3 = k3
   all_goals simp [Op.eqFields, Program.fieldsOf, Tryz.underlying44, go_sem, h1, h2, h3]
  ·simp [Op.eqFields, Program.fieldsOf, Tryz.underlying44, go_sem, h1, h2]
 ·simp [Op.eqFields, Program.fieldsOf, Tryz.underlying44, go_sem, h1]
theorem eq_guard_word (op : BinOp) (x y : Operand) (xs ys : Array Value) (w : World) : (eqGuard op 44 x y (.agg xs) (.agg ys)).run Tryz.prog w = .ok () w :=
 run_eqGuard_agg w op _ x y xs ys (by kernel_rfl)
theorem wdB_self (x : Wd) : wdB x x = true := decide_eq_true rfl
theorem Ws.of {w w' : World} {base : Nat} {v : Value} {l : List Wd} (h : Ws w base v l) (he : Ext w w') : Ws w' base v l := by
 obtain ⟨r, rfl⟩ := he; exact Own.ext h r
open Go.RowKit
theorem flat_len {α : Type} {enc : α → List Value} {size : Nat} (henc : ∀ x, (enc x).length = size) : ∀ (l : List α), (l.flatMap enc).length = l.length * size
 | [] => by simp
 | y :: ys => by simp only [List.flatMap_cons, List.length_append, henc, List.length_cons, Nat.add_mul]; rw [flat_len henc ys]; omega
section
variable {P : Program} {α : Type} {enc : α → List Value} {size : Nat} {l : List α} {w : World}
theorem run_append_clip {t ty e : TypeId} {i : TypeInfo} {z : Value} {bytes : Nat} (ht : P.underlying t = some (.slice e)) (hi : P.info? e = some i) (hz : i.zero = some z)
 (hsize : i.size = size) (hby : i.bytes = bytes) (hzs : z.cells.size = size) (hsz : 0 < size) (henc : ∀ x, (enc x).length = size) {sa : Option Addr} {n : Nat} (hsl : Sl w size enc (.slice sa n n) l)
 (ad : Addr) (m c : Nat) (news : List α) (hm : news.length = m) (hm0 : 0 < m) (hnews : ∀ (j : Nat) (u : Value), (news.flatMap enc)[j]? = some u → w.cell? (ad.add j) = some u)
 (hlen : n + m ≤ maxLen) (hbytes : (n + m) * bytes ≤ 140737488355328) :
 ∃ v' w', (Builtin.append_ #[t, t] ty #[.slice sa n n, .slice (some ad) m c]).run P w = .ok v' w' ∧ Own w' w.heap.size e size enc v' (l ++ news) ∧ Ext w w' := by
 subst hsize
 subst hby
 have hn : n = l.length := by
  obtain ⟨_, _, hv, _, _⟩ := hsl
  simp only [Value.slice.injEq] at hv
  exact hv.2.1
 have hlo : (l.flatMap enc).length = n * i.size := by rw [hn]; exact flat_len henc l
 have hln : (news.flatMap enc).length = m * i.size := by rw [← hm]; exact flat_len henc news
 have h63 : n + m ≤ 9223372036854775807 := by simp only [maxLen] at hlen; omega
 have hall : (l ++ news).flatMap enc = l.flatMap enc ++ news.flatMap enc := by simp
 have hal : (l ++ news).length = n + m := by rw [List.length_append, hm, hn]
 have grown : ∀ (old : Nat), old < n + m →
  Own (w.drew.alloc (.cells ((l.flatMap enc).toArray ++ (news.flatMap enc).toArray ++ Builtin.zeroCells z.cells (grownCap w (n + m) old e - (n + m))) e)) w.heap.size e i.size enc (.slice (some ⟨w.heap.size, 0, none⟩) (n + m) (grownCap w (n + m) old e)) (l ++ news) := by
  intro old ho
  have hge := grownCap_ge w (n + m) old e
  have hcm : grownCap w (n + m) old e ≤ maxLen := grownCap_le_maxLen w (n + m) old e hlen
  unfold Own
  rw [hal, hall]
  refine ⟨by rw [List.length_append, hlo, hln, Nat.add_mul], .inr ⟨w.heap.size, _, _, rfl, Nat.le_refl _, heap_alloc_new w.drew _, hge, hcm, ?_, ?_⟩⟩
  ·simp only [Array.size_append, List.size_toArray, size_zeroCells, hzs, hlo, hln, ← Nat.add_mul]
   congr 1
   omega
  ·simp only [Array.toList_append, List.append_assoc]
   rw [← List.append_assoc, show (n + m) * i.size = (l.flatMap enc ++ news.flatMap enc).length by rw [List.length_append, hlo, hln, Nat.add_mul]]
   exact List.take_left
 have hx : ∀ o, Ext w (w.drew.alloc o) := fun o => (Ext.refl w).drew.alloc o
 cases sa with
 | none =>
  have hl0 : l = [] := by
   cases l with
   | nil => rfl
   | cons x r => obtain ⟨_, _, hv, _, hq⟩ := hsl; obtain ⟨b, o, h, _⟩ := hq (by simp); simp only [Value.slice.injEq] at hv; rw [← hv.1] at h; cases h
  subst hl0
  have hn0 : n = 0 := hn
  subst hn0
  have hr := run_append_nil (P := P) w t ty e i z ht hi hz ad m c (news.flatMap enc) hln hnews (by omega) (by omega) (by have hb := hbytes; simp only [Nat.zero_add] at hb; omega)
  have hgr := grown 0 (by omega)
  simp only [Nat.zero_add, List.nil_append, List.flatMap_nil, Array.empty_append] at hgr ⊢
  exact ⟨_, _, hr, hgr, hx _⟩
 | some b =>
  have holds : ∀ j u, (l.flatMap enc)[j]? = some u → w.cell? (b.add j) = some u := by
   by_cases hl0 : l = []
   ·subst hl0; intro j u hj; simp at hj
   ·exact Sl.flat henc hsz hsl
  have hr := run_append_grow (P := P) w t ty e i z ht hi hz b n n (l.flatMap enc) hlo holds ad m c (news.flatMap enc) hln hnews (by omega) (by omega) (growslice_fits (by omega) hbytes)
  exact ⟨_, _, hr, grown n (by omega), hx _⟩
theorem app_clip_op {t e : TypeId} {i : TypeInfo} {z : Value} {bytes : Nat} (ht : P.underlying t = some (.slice e)) (hi : P.info? e = some i) (hz : i.zero = some z)
 (hsize : i.size = size) (hby : i.bytes = bytes) (hzs : z.cells.size = size) (hsz : 0 < size) (henc : ∀ x, (enc x).length = size)
 {o : Oper} {a : Act} {K : Act → World → Prop} {Q : Exit → Act → World → Prop}
 (s x : Operand) (ho : o.op = .call { callee := .builtin .append, args := #[s, x], argTypes := #[t, t] })
 {sa : Option Addr} {n : Nat} (hs : a.eval s = .slice sa n n) (hsl : Sl w size enc (.slice sa n n) l)
 (ad : Addr) (m c : Nat) (hx : a.eval x = .slice (some ad) m c) (news : List α) (hm : news.length = m) (hm0 : 0 < m)
 (hnews : ∀ (j : Nat) (u : Value), (news.flatMap enc)[j]? = some u → w.cell? (ad.add j) = some u)
 (hlen : n + m ≤ maxLen) (hbytes : (n + m) * bytes ≤ 140737488355328)
 (h : ∀ v' r, Own (ext w r) w.heap.size e size enc v' (l ++ news) → K (a.put o.dst v') (Go.Proofs.YtiacdohaiidehaaGreatDoor.ext w r)) : Oper.wp P o a w K Q := by
 obtain ⟨v', w', hr, h1, h2⟩ := run_append_clip (P := P) (ty := o.type) ht hi hz hsize hby hzs hsz henc hsl ad m c news hm hm0 hnews hlen hbytes
 obtain ⟨r, rfl⟩ := h2
 unfold Oper.wp execOp
 simp only [ho, resolve, invoke, builtin, Sem.run_bind, Sem.run_pure, Result.andThen_ok, List.map_toArray, List.map_cons, List.map_nil, hs, hx, hr]
 exact h v' r h1
end
open Go.RowKit
def fDst (ops : Array Oper) (i : Nat) : Option Tmp := (ops[i]?).bind (·.dst)
def fPut : List Tmp → Nat → (Nat → Value) → Act → Act
 | [], _, _, a => a
 | d :: ds, k, u, a => fPut ds (k + 1) u (a.put (some d) (u k))
def headArr (n s : Nat) : Array Bool := ((List.range s).map (fun i => decide (i < n))).toArray
def fOkB (ops : Array Oper) (ds : List Tmp) (m : Nat) : Bool :=
 decide (ds.length ≤ ops.size) && (decide (ds.length = ops.size) || (Region.sinkB .any ops ds.length && Region.chainB .any ops ds.length)) &&
 ((List.range ds.length).all fun i => fDst ops i == ds[i]? && ((ds[i]?).map (fun d => decide (d < m) && ((List.range ds.length).all fun j => j == i || !(ds[j]? == some d)))).getD false) &&
 ((List.range ops.size).all fun i => ((ops[i]?).map (·.after.all fun e => !Region.binds .any e || decide (e.on < i))).getD true) &&
 Region.seqB .any ops (ops.size - ds.length) ds.length (headArr ds.length ops.size)
def AllOn (H : Nat → Prop) : List Nat → Prop
 | [] => True
 | i :: r => H i ∧ AllOn H r
theorem AllOn.nil {H : Nat → Prop} : AllOn H [] := trivial
theorem AllOn.cons {H : Nat → Prop} {i : Nat} {r : List Nat} (h : H i) (hr : AllOn H r) : AllOn H (i :: r) := ⟨h, hr⟩
theorem AllOn.at {H : Nat → Prop} : ∀ {r : List Nat} {i : Nat}, AllOn H r → i ∈ r → H i
 | [], _, _, h => by cases h
 | x :: r, i, h, hm => by
  rcases List.mem_cons.1 hm with e | e
  ·subst e; exact h.1
  ·exact AllOn.at h.2 e
theorem AllOn.of {H : Nat → Prop} : ∀ {r : List Nat}, (∀ i ∈ r, H i) → AllOn H r
 | [], _ => trivial
 | x :: r, h => ⟨h x (List.mem_cons_self ..), AllOn.of fun i hi => h i (List.mem_cons_of_mem _ hi)⟩
def IsV (c : Value) : Value → World → Prop := fun v _ => v = c
theorem IsV.mk {c : Value} {w : World} : IsV c c w := rfl
def fsAt (fs : List (Value → World → Prop)) (i : Nat) : Value → World → Prop := fs.getD i (fun _ _ => True)
structure Off (ds : List Tmp) (a0 A : Act) : Prop where
 defers : A.defers = a0.defers
 size : A.tmps.size = a0.tmps.size
 slot : ∀ t, t ∉ ds → A.tmps[t]? = a0.tmps[t]?
theorem Off.eval {ds : List Tmp} {a0 A : Act} (h : Off ds a0 A) (t : Tmp) (ht : ds.contains t = false) : A.eval (.tmp t) = a0.eval (.tmp t) := by
 have := h.slot t (by simpa using ht)
 simp only [Act.eval, Array.getD_eq_getD_getElem?, this]
theorem Off.put {ds : List Tmp} {a0 A : Act} (h : Off ds a0 A) {d : Tmp} (hd : d ∈ ds) (v : Value) : Off ds a0 (A.put (some d) v) :=
 ⟨h.defers, by simp [Act.put, h.size], fun t ht => by
  have : d ≠ t := fun e => ht (e ▸ hd)
  simp only [Act.put, Array.getElem?_setIfInBounds_ne this]
  exact h.slot t ht⟩
theorem eval_put_self {A : Act} {d : Tmp} (v : Value) (h : d < A.tmps.size) : (A.put (some d) v).eval (.tmp d) = v := by
 simp [Act.put, Act.eval, h]
theorem eval_put_other {A : Act} {d t : Tmp} (v : Value) (h : d ≠ t) : (A.put (some d) v).eval (.tmp t) = A.eval (.tmp t) :=
 Act.eval_put fun e he => by cases he; intro hx; cases hx; exact h rfl
theorem fPut_size : ∀ (ds : List Tmp) (k : Nat) (u : Nat → Value) (a : Act), (fPut ds k u a).tmps.size = a.tmps.size ∧ (fPut ds k u a).defers = a.defers
 | [], _, _, _ => ⟨rfl, rfl⟩
 | d :: ds, k, u, a => by
  obtain ⟨h1, h2⟩ := fPut_size ds (k + 1) u (a.put (some d) (u k))
  rw [fPut]
  exact ⟨by rw [h1]; simp [Act.put], by rw [h2]; rfl⟩
theorem fPut_out : ∀ (ds : List Tmp) (k : Nat) (u : Nat → Value) (a : Act) (t : Tmp), t ∉ ds → (fPut ds k u a).tmps[t]? = a.tmps[t]?
 | [], _, _, _, _, _ => rfl
 | d :: ds, k, u, a, t, h => by
  rw [fPut, fPut_out ds (k + 1) u _ t (fun e => h (List.mem_cons_of_mem _ e))]
  have : d ≠ t := fun e => h (e ▸ List.mem_cons_self ..)
  simp only [Act.put, Array.getElem?_setIfInBounds_ne this]
theorem fPut_in : ∀ (ds : List Tmp) (k : Nat) (u : Nat → Value) (a : Act) (i : Nat) (d : Tmp), ds[i]? = some d → d < a.tmps.size → (∀ j, j ≠ i → ds[j]? ≠ some d) → (fPut ds k u a).tmps[d]? = some (u (k + i))
 | [], _, _, _, _, _, h, _, _ => by simp at h
 | e :: ds, k, u, a, 0, d, h, hs, hn => by
  simp at h
  subst h
  rw [fPut, fPut_out ds _ _ _ _ (fun hm => by obtain ⟨j, hj⟩ := List.getElem?_of_mem hm; exact hn (j + 1) (by omega) (by simpa using hj))]
  simp [Act.put, hs]
 | e :: ds, k, u, a, i + 1, d, h, hs, hn => by
  simp at h
  rw [fPut, fPut_in ds (k + 1) u _ i d h (by simpa [Act.put] using hs) (fun j hj => by have := hn (j + 1) (by omega); simpa using this)]
  congr 2
  omega
section
variable {P : Program} {l : List Oper} {Q : Exit → Act → World → Prop}
def HeadAt (P : Program) (ops : Array Oper) (Q : Exit → Act → World → Prop) (ds : List Tmp) (a0 : Act) (C : World → Prop) (F : Nat → Value → World → Prop) (i : Nat) : Prop :=
 ∀ A w, C w → Off ds a0 A → (∀ j, Region.waitsFor .any ops i j = true → ∀ d, ds[j]? = some d → F j (A.eval (.tmp d)) w) →
  wpOp P ops Q i (fun A' w' => ∃ v, A' = A.put ds[i]? v ∧ Ext w w' ∧ F i v w') A w
theorem headArr_get (n s i : Nat) (d : Bool) : (headArr n s).getD i d = if i < s then decide (i < n) else d := by
 unfold headArr
 by_cases h : i < s
 ·rw [if_pos h]; simp [h]
 ·rw [if_neg h]; simp [h]
theorem facts_any {a0 : Act} {ds : List Tmp} {C : World → Prop} {F : Nat → Value → World → Prop} (hB : fOkB l.toArray ds a0.tmps.size = true)
 (hCE : ∀ w w', C w → Ext w w' → C w') (hFE : ∀ i, i < ds.length → ∀ v w w', F i v w → Ext w w' → F i v w')
 (hH : ∀ i, i < ds.length → HeadAt P l.toArray Q ds a0 C F i)
 (hT : ∀ A w, C w → Off ds a0 A → (∀ i d, ds[i]? = some d → F i (A.eval (.tmp d)) w) → wpList P l.toArray Q (l.drop ds.length) A w) :
 ∀ (m : Nat) (listed : Array Bool) (A : Act) (w : World), HeadInv .any l.toArray ds.length listed → ((List.range ds.length).filter (fun i => !listed.getD i true)).length = m →
  C w → Off ds a0 A → (∀ i d, ds[i]? = some d → listed.getD i false = true → F i (A.eval (.tmp d)) w) → wpAny P .any l.toArray Q (m + (l.toArray.size - ds.length)) listed A w := by
 simp only [fOkB, Bool.and_eq_true, Bool.or_eq_true, decide_eq_true_eq, List.all_eq_true, List.mem_range] at hB
 obtain ⟨⟨⟨⟨hle, hsc⟩, hds⟩, hback⟩, hseq⟩ := hB
 have hdst : ∀ i, i < ds.length → ∃ d, ds[i]? = some d ∧ fDst l.toArray i = some d ∧ d < a0.tmps.size ∧ ∀ j, j ≠ i → ds[j]? ≠ some d := by
  intro i hi
  obtain ⟨h1, h2⟩ := hds i hi
  have hg := List.getElem?_eq_getElem hi
  rw [hg] at h1 h2
  simp only [Option.map_some, Option.getD_some, Bool.and_eq_true, decide_eq_true_eq, List.all_eq_true, List.mem_range, Bool.or_eq_true, beq_iff_eq, Bool.not_eq_true'] at h2
  refine ⟨_, hg, by simpa using h1, h2.1, fun j hj hje => ?_⟩
  have hjl := (List.getElem?_eq_some_iff.1 hje).1
  rcases h2.2 j hjl with h3 | h3
  ·exact hj h3
  ·rw [hje] at h3; simp at h3
 intro m
 induction m with
 | zero =>
  intro listed A w inv hm hC hO hF
  have hall : ∀ i, i < ds.length → listed.getD i true = true := by
   intro i hi
   have : (List.range ds.length).filter (fun i => !listed.getD i true) = [] := List.eq_nil_of_length_eq_zero hm
   have := (List.filter_eq_nil_iff.1 this) i (List.mem_range.2 hi)
   simpa using this
  have he : listed = headArr ds.length l.toArray.size := by
   apply Array.ext
   ·rw [inv.size]; simp [headArr]
   ·intro i h1 h2
    have hi : i < l.toArray.size := by rw [← inv.size]; exact h1
    have gd : ∀ (r : Array Bool) (h : i < r.size), r.getD i true = r[i] := fun r h => by simp [h]
    rw [← gd _ h1, ← gd _ h2, headArr_get, if_pos hi]
    by_cases hn : i < ds.length
    ·rw [hall i hn, decide_eq_true hn]
    ·rw [inv.tail i (by omega) hi, decide_eq_false hn]
  rw [he]
  have hdl : (l.drop ds.length).length = l.toArray.size - ds.length := by simp
  rw [Nat.zero_add, ← hdl]
  refine wpAny_of_seq (l.drop ds.length) ds.length _ A w (fun j => by simp) (by rw [hdl]; exact hseq) (hT A w hC hO fun i d hi => ?_)
  have hil := (List.getElem?_eq_some_iff.1 hi).1
  have hs : i < listed.size := by rw [inv.size]; omega
  have := hall i hil
  exact hF i d hi (by simp [hs] at this ⊢; exact this)
 | succ m ih =>
  intro listed A w inv hm hC hO hF
  -- one that has not come up
  obtain ⟨k0, hk0⟩ : ∃ k, k ∈ (List.range ds.length).filter (fun i => !listed.getD i true) := by
   cases hf : (List.range ds.length).filter (fun i => !listed.getD i true) with
   | nil => rw [hf] at hm; simp at hm
   | cons x r => exact ⟨x, List.mem_cons_self ..⟩
  have hleast : ∀ d k, d = k → k < ds.length → listed.getD k true = false → ∃ i, i ∈ Region.ready .any l.toArray listed := by
   intro d
   induction d using Nat.strongRecOn with
   | _ d ihd =>
    intro k hdk hk hun
    obtain ⟨o, ho⟩ : ∃ o, l.toArray[k]? = some o := ⟨_, Array.getElem?_eq_getElem (by omega)⟩
    by_cases hr : ∀ e ∈ o.after, Region.binds .any e = true → listed.getD e.on false = true
    ·exact ⟨k, mem_ready.2 ⟨hun, o, ho, hr⟩⟩
    ·have hb := hback k (by omega)
     rw [ho] at hb
     simp only [Option.map_some, Option.getD_some, Array.all_eq_true_iff_forall_mem, Bool.or_eq_true, Bool.not_eq_true', decide_eq_true_eq] at hb
     obtain ⟨e, he⟩ := Classical.not_forall.1 hr
     obtain ⟨hem, he⟩ := Classical.not_imp.1 he
     obtain ⟨hbe, he⟩ := Classical.not_imp.1 he
     have hlt : e.on < k := by
      rcases hb e hem with h | h
      ·rw [h] at hbe; cases hbe
      ·exact h
     have hs : e.on < listed.size := by rw [inv.size]; omega
     exact ihd e.on (by omega) e.on rfl (by omega) (getD_in hs (by simpa using he))
  have hk0' := List.mem_filter.1 hk0
  have hne := hleast k0 k0 rfl (List.mem_range.1 hk0'.1) (by simpa using hk0'.2)
  rw [show m + 1 + (l.toArray.size - ds.length) = (m + (l.toArray.size - ds.length)) + 1 by omega]
  refine ⟨fun h0 => (by obtain ⟨i, hi⟩ := hne; rw [h0] at hi; cases hi), fun i hi => ?_⟩
  have hin : i < ds.length := by
   rcases hsc with h | ⟨h1, h2⟩
   ·obtain ⟨_, o, ho, _⟩ := mem_ready.1 hi
    rw [h]; exact (Array.getElem?_eq_some_iff.1 ho).1
   ·by_cases hlt : ds.length < l.toArray.size
    ·rcases Nat.lt_or_ge i ds.length with h3 | h3
     ·exact h3
     ·exact absurd hi (tail_waits h1 h2 hlt inv _ k0 rfl (List.mem_range.1 hk0'.1) (by simpa using hk0'.2) i h3)
    ·obtain ⟨_, o, ho, _⟩ := mem_ready.1 hi
     have := (Array.getElem?_eq_some_iff.1 ho).1
     omega
  obtain ⟨hiun, oi, hoi, hiall⟩ := mem_ready.1 hi
  obtain ⟨d, hd, hdo, hdm, hdn⟩ := hdst i hin
  refine wpOp_mono ?_ (hH i hin A w hC hO fun j hj dj hdj => ?_)
  ·rintro A' w' ⟨v, rfl, hX, hFv⟩
   rw [hd]
   have hmem : d ∈ ds := List.mem_of_getElem? hd
   refine ih _ _ _ (inv.set hi hin) ?_ (hCE _ _ hC hX) (hO.put hmem v) fun j dj hdj hjl => ?_
   ·-- one fewer
    have hsz : i < listed.size := by rw [inv.size]; omega
    have : ∀ (r : List Nat), r.Nodup → i ∈ r → (r.filter (fun k => !(listed.setIfInBounds i true).getD k true)).length + 1 = (r.filter (fun k => !listed.getD k true)).length := by
     intro r
     induction r with
     | nil => intro _ h; cases h
     | cons x r ihr =>
      intro hnd hmem
      rw [List.nodup_cons] at hnd
      by_cases hx : x = i
      ·subst hx
       have e : r.filter (fun k => !(listed.setIfInBounds x true).getD k true) = r.filter (fun k => !listed.getD k true) := by
        apply List.filter_congr
        intro y hy
        rw [getD_set_ne true (fun (e : x = y) => hnd.1 (by rw [e]; exact hy))]
       rw [List.filter_cons, List.filter_cons, e]
       have h1 : (listed.setIfInBounds x true).getD x true = true := by simp [hsz]
       rw [h1, hiun]
       simp
      ·have h2 : i ∈ r := by
        rcases List.mem_cons.1 hmem with h | h
        ·exact absurd h.symm hx
        ·exact h
       have h3 := ihr hnd.2 h2
       rw [List.filter_cons, List.filter_cons, getD_set_ne true (fun e => hx e.symm)]
       split
       ·simp only [List.length_cons]; omega
       ·exact h3
    have := this (List.range ds.length) List.nodup_range (List.mem_range.2 hin)
    omega
   ·by_cases hji : j = i
    ·subst hji
     have : dj = d := Option.some.inj (hdj.symm.trans hd)
     subst this
     rw [eval_put_self v (by rw [hO.size]; exact hdm)]
     exact hFv
    ·have hjd : d ≠ dj := fun e => hdn j hji (e ▸ hdj)
     rw [eval_put_other v hjd]
     rw [getD_set_ne false (fun e => hji e.symm)] at hjl
     exact hFE j (List.getElem?_eq_some_iff.1 hdj).1 _ _ _ (hF j dj hdj hjl) hX
  ·obtain ⟨o', ho', e, he, hb, hon⟩ := Region.waitsFor_spec hj
   have : o' = oi := Option.some.inj (ho'.symm.trans hoi)
   subst this
   have := hiall e he hb
   rw [hon] at this
   exact hF j dj hdj this
theorem ev_tm (A : Act) (t : Tmp) : A.eval (.tmp t) = A.tmps[t]?.getD undef := by simp [Act.eval]
theorem evD {A : Act} {t : Tmp} {v : Value} (h : A.eval (.tmp t) = v) : A.tmps[t]?.getD undef = v := (ev_tm A t).symm.trans h
theorem evO {ds : List Tmp} {a0 A : Act} (h : Off ds a0 A) (t : Tmp) (ht : ds.contains t = false) : A.tmps[t]?.getD undef = a0.eval (.tmp t) := (ev_tm A t).symm.trans (h.eval t ht)
theorem wp_region_facts {id : Nat} {a0 : Act} {w0 : World} (ds : List Tmp) (is : List Nat) (his : is = List.range ds.length) (C : World → Prop) (F : Nat → Value → World → Prop) (hm : P.follows .mixedOrders = true) (hB : fOkB l.toArray ds a0.tmps.size = true)
 (hC0 : C w0.drew) (hCE : ∀ w w', C w → Ext w w' → C w') (hFE : AllOn (fun i => ∀ v w w', F i v w → Ext w w' → F i v w') is)
 (hH : AllOn (HeadAt P l.toArray Q ds a0 C F) is)
 (hT : ∀ (u : Nat → Value) w, C w → AllOn (fun i => F i (u i) w) is → wpList P l.toArray Q (l.drop ds.length) (fPut ds 0 u a0) w) : (Code.region id l.toArray true).wp P Q a0 w0 := by
 have inv0 : HeadInv .any l.toArray ds.length (Array.replicate l.toArray.size false) :=
  ⟨by simp, fun j oj _ hl => (by rw [getD_replicate_false] at hl; cases hl), fun t _ ht => getD_in (by simpa using ht) (getD_replicate_false _ _)⟩
 have hle : ds.length ≤ l.toArray.size := by
  have := hB
  simp only [fOkB, Bool.and_eq_true, decide_eq_true_eq] at this
  exact this.1.1.1.1
 refine wp_region_any hm ?_
 have H := facts_any (P := P) (Q := Q) (l := l) (a0 := a0) (ds := ds) (C := C) (F := F) hB hCE (fun i hi => hFE.at (by rw [his]; exact List.mem_range.2 hi)) (fun i hi => hH.at (by rw [his]; exact List.mem_range.2 hi)) ?_
  ds.length (Array.replicate l.toArray.size false) a0 w0.drew inv0 ?_ hC0 ⟨rfl, rfl, fun _ _ => rfl⟩ (fun i d _ h => by rw [getD_replicate_false] at h; cases h)
 ·rw [show ds.length + (l.toArray.size - ds.length) = l.toArray.size by omega] at H
  exact H
 ·intro A w hC hO hF
  have hds : ∀ i, i < ds.length → ∃ d, ds[i]? = some d ∧ d < a0.tmps.size ∧ ∀ j, j ≠ i → ds[j]? ≠ some d := by
   simp only [fOkB, Bool.and_eq_true, Bool.or_eq_true, decide_eq_true_eq, List.all_eq_true, List.mem_range] at hB
   intro i hi
   obtain ⟨h1, h2⟩ := hB.1.1.2 i hi
   have hg := List.getElem?_eq_getElem hi
   rw [hg] at h1 h2
   simp only [Option.map_some, Option.getD_some, Bool.and_eq_true, decide_eq_true_eq, List.all_eq_true, List.mem_range, Bool.or_eq_true, beq_iff_eq, Bool.not_eq_true'] at h2
   refine ⟨_, hg, h2.1, fun j hj hje => ?_⟩
   have hjl := (List.getElem?_eq_some_iff.1 hje).1
   rcases h2.2 j hjl with h3 | h3
   ·exact hj h3
   ·rw [hje] at h3; simp at h3
  obtain ⟨u, hu⟩ : ∃ u : Nat → Value, ∀ i d, ds[i]? = some d → u i = A.eval (.tmp d) := ⟨fun i => match ds[i]? with | some d => A.eval (.tmp d) | none => undef, fun i d h => by simp only [h]⟩
  have hAe : A = fPut ds 0 u a0 := by
   obtain ⟨s1, s2⟩ := fPut_size ds 0 u a0
   have ht : A.tmps = (fPut ds 0 u a0).tmps := by
    apply Array.ext_getElem?
    intro t
    by_cases hm : t ∈ ds
    ·obtain ⟨i, hi⟩ := List.getElem?_of_mem hm
     obtain ⟨d, hd, hdm, hdn⟩ := hds i (List.getElem?_eq_some_iff.1 hi).1
     have : d = t := Option.some.inj (hd.symm.trans hi)
     subst this
     rw [fPut_in ds 0 u a0 i d hd hdm hdn, Nat.zero_add, hu i d hd]
     have hs : d < A.tmps.size := by rw [hO.size]; exact hdm
     simp [Act.eval, hs]
    ·rw [fPut_out ds 0 u a0 t hm, hO.slot t hm]
   have hdf : A.defers = (fPut ds 0 u a0).defers := by rw [s2, hO.defers]
   cases A with
   | mk tm df =>
    generalize fPut ds 0 u a0 = B at *
    cases B with
    | mk tm2 df2 =>
     simp only at ht hdf
     rw [ht, hdf]
  rw [hAe]
  refine hT u w hC ?_
  refine AllOn.of fun i hi => ?_
  rw [his] at hi
  obtain ⟨d, hd, _⟩ := hds i (List.mem_range.1 hi)
  rw [hu i d hd]
  exact hF i d hd
 ·rw [List.filter_eq_self.2]
  ·exact List.length_range
  ·intro i hi
   have : i < l.toArray.size := by have := List.mem_range.1 hi; omega
   simp [getD_in (by simpa using this) (getD_replicate_false _ _)]
theorem head_val {ds : List Tmp} {F : Nat → Value → World → Prop} {ops : Array Oper} {i : Nat} {o : Oper} {A : Act} {w : World} (ho : ops[i]? = some o) (c : Value)
 (hw : Region.wanted o (yielded ops A.tmps) = true) (hd : ds[i]? = o.dst) (hr : (execOp A.eval o).run P w = .ok (.value c) w) (hF : F i c w) :
 wpOp P ops Q i (fun A' w' => ∃ v, A' = A.put ds[i]? v ∧ Ext w w' ∧ F i v w') A w := by
 unfold wpOp
 simp only [ho, hw, if_true, Oper.wp, hr, Oper.upon]
 exact .inl ⟨c, by rw [hd], Ext.refl w, hF⟩
theorem head_wp {ds : List Tmp} {F : Nat → Value → World → Prop} {ops : Array Oper} {i : Nat} {o : Oper} {A : Act} {w : World} (ho : ops[i]? = some o)
 (hw : Region.wanted o (yielded ops A.tmps) = true) (h : Oper.wp P o A w (fun A' w' => ∃ v, A' = A.put ds[i]? v ∧ Ext w w' ∧ F i v w') Q) :
 wpOp P ops Q i (fun A' w' => ∃ v, A' = A.put ds[i]? v ∧ Ext w w' ∧ F i v w') A w := by
 unfold wpOp
 simp only [ho, hw, if_true]
 exact .inl h
end
theorem hdV {P : Program} {ops : Array Oper} {Q : Exit → Act → World → Prop} {ds : List Tmp} {F : Nat → Value → World → Prop} {i : Nat} {d : Option Tmp} {op : Op} {ty : TypeId} {ps : String} {af : Array Edge} {gd : Option (Nat × Bool)} {A : Act} {w : World} (ho : ops[i]? = some ⟨d, op, ty, ps, af, gd⟩) (c : Value) (hw : Region.wanted ⟨d, op, ty, ps, af, gd⟩ (yielded ops A.tmps) = true) (hd : ds[i]? = d) (hr : (execOp A.eval ⟨d, op, ty, ps, af, gd⟩).run P w = .ok (.value c) w) (hF : F i c w) : wpOp P ops Q i (fun A' w' => ∃ v, A' = A.put ds[i]? v ∧ Ext w w' ∧ F i v w') A w := head_val ho c hw hd hr hF
theorem hdW {P : Program} {ops : Array Oper} {Q : Exit → Act → World → Prop} {ds : List Tmp} {F : Nat → Value → World → Prop} {i : Nat} {d : Option Tmp} {op : Op} {ty : TypeId} {ps : String} {af : Array Edge} {gd : Option (Nat × Bool)} {A : Act} {w : World} (ho : ops[i]? = some ⟨d, op, ty, ps, af, gd⟩) (hw : Region.wanted ⟨d, op, ty, ps, af, gd⟩ (yielded ops A.tmps) = true) (h : Oper.wp P ⟨d, op, ty, ps, af, gd⟩ A w (fun A' w' => ∃ v, A' = A.put ds[i]? v ∧ Ext w w' ∧ F i v w') Q) : wpOp P ops Q i (fun A' w' => ∃ v, A' = A.put ds[i]? v ∧ Ext w w' ∧ F i v w') A w := head_wp ho hw h
theorem aC {H : Nat → Prop} {i : Nat} {r : List Nat} (h : H i) (hr : AllOn H r) : AllOn H (i :: r) := ⟨h, hr⟩
end Go.Proofs.YtiacdohaiidehaaGreatDoor
