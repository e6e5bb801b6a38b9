/- General laws, of no program in particular: maps that the call has made, from numbers to bools, numbers or strings, as functions; put and look-up at the operation. No condition. -/
import Derived.Test.YtadilekaombofaaDoorPk00
import Derived.Maps.OwnSet
import Derived.Maps.StringElems
namespace Go.Proofs.YtadilekaombofaaDoor
set_option linter.unusedSimpArgs false
set_option linter.unusedVariables false
open Go.RowKit Go.Maps
structure El (P : Program) (e : TypeId) (β : Type) where
 val : β → Value
 lit : β → Lit
 zero : β
 Ok : β → Prop
 okz : Ok zero
 read : ∀ c, Ok c → plainElem (H := Unit) P e (val c) = some (.lit (lit c), [])
 back : ∀ v z, plainElem (H := Unit) P e v = some z → ∃ c, Ok c ∧ v = val c ∧ z = (.lit (lit c), [])
 inj : ∀ c d, lit c = lit d → c = d
 made : ∀ w, (zeroValue e).run P w = .ok (val zero) w
def elBool (P : Program) (e : TypeId) (he : P.underlying e = some .bool) (hz : ∀ w, (zeroValue e).run P w = .ok (.bool false) w) : El P e Bool where
 val := .bool
 lit := .bool
 zero := false
 Ok := fun _ => True
 okz := trivial
 read := fun c _ => plainElem_bool he c
 back := fun v z h => by
  unfold plainElem at h
  rw [he] at h
  cases v <;> simp at h
  exact ⟨_, trivial, rfl, h.symm⟩
 inj := fun c d h => by simpa using h
 made := hz
def elInt (P : Program) (e : TypeId) (he : P.underlying e = some (.int .i64)) (hz : ∀ w, (zeroValue e).run P w = .ok (.int .i64 0) w) : El P e Int where
 val := .int .i64
 lit := .int .i64
 zero := 0
 Ok := fun c => (Lit.int .i64 c).wf = true
 okz := by decide
 read := fun c h => plainElem_int he h
 back := fun v z h => by
  obtain ⟨a, h1, h2, h3⟩ := plainElem_int_inv he h
  exact ⟨a, h3, h1, h2⟩
 inj := fun c d h => by simpa using h
 made := hz
def elStr (P : Program) (e : TypeId) (he : P.underlying e = some .string) (hz : ∀ w, (zeroValue e).run P w = .ok (.string ByteArray.empty) w) : El P e ByteArray where
 val := .string
 lit := fun s => .string s.data.toList
 zero := ByteArray.empty
 Ok := fun s => s.size ≤ maxLen
 okz := by unfold maxLen; decide
 read := fun c h => plainElem_string he h
 back := fun v z h => by
  obtain ⟨s, h1, h2, h3⟩ := plainElem_string_inv he h
  exact ⟨s, h3, h1, h2⟩
 inj := fun c d h => by
  simp only [Lit.string.injEq] at h
  cases c with | mk c => cases d with | mk d => exact congrArg ByteArray.mk (Array.toList_inj.1 h)
 made := hz
section
variable {P : Program} {k e : TypeId} {β : Type} (E : El P e β)
def MapF (k : TypeId) (w : World) (b n : Nat) (f : Int → β) : Prop :=
 ∃ D : DataW Unit, w.ownsMap P k (plainElem P e) b n D ∧ ∀ x : Int, (Lit.int .i64 x).wf = true → D.atKey (.int .i64 x) (.lit (E.lit E.zero)) = .lit (E.lit (f x))
variable {w : World} {b n : Nat} {f : Int → β}
theorem MapF.kept (h : MapF E k w b n f) {w' : World} {row : Option Nat} (hg : w.grownBy w' row) (hne : some b ≠ row) : MapF E k w' b n f := by
 obtain ⟨D, h1, h2⟩ := h
 exact ⟨D, h1.kept hg hne, h2⟩
theorem MapF.alloc (h : MapF E k w b n f) (o : Obj) : MapF E k (w.alloc o) b n f := MapF.kept E h (World.grownBy_alloc w o none) (by simp)
theorem MapF.drew (h : MapF E k w b n f) : MapF E k w.drew b n f := h
theorem MapF.ext (h : MapF E k w b n f) (r : Xt) : MapF E k (ext w r) b n f :=
 MapF.kept E (row := none) h ⟨rfl, rfl, rfl, by simp, fun i hi _ => heap_ext w r i hi⟩ (by simp)
theorem MapF.of (h : MapF E k w b n f) {w' : World} (he : Ext w w') : MapF E k w' b n f := by
 obtain ⟨r, rfl⟩ := he; exact MapF.ext E h r
theorem MapF.lt (h : MapF E k w b n f) : b < w.heap.size := by
 obtain ⟨D, h1, _⟩ := h; exact h1.lt
theorem MapF.made (w : World) (o : Nat) (ho : o = w.heap.size) : MapF E k (w.alloc (.map #[] 0)) o 0 (fun _ => E.zero) := by
 subst ho
 exact ⟨_, World.ownsMap_made w P k (plainElem P e), fun x _ => rfl⟩
theorem MapF.cell (h : MapF E k w b n f) {a : Addr} (ha : b ≠ a.block) (u : Value) : MapF E k (w.setCell a u) b n f := by
 obtain ⟨D, h1, h2⟩ := h
 exact ⟨D, h1.setCell ha u, h2⟩
theorem MapF.ok (hk : P.underlying k = some (.int .i64)) {t : TypeId} (ht : P.underlying t = some (.map k e)) (h : MapF E k w b n f) (x : Int) (hx : (Lit.int .i64 x).wf = true) : E.Ok (f x) := by
 obtain ⟨D, h1, h2⟩ := h
 obtain ⟨v, ps, _, hv⟩ := h1.lookup (int_keyed hk) ht (E.made w) (E.read _ E.okz) (keyOf_int_mk hk hx)
 obtain ⟨c, hc, _, hz⟩ := E.back _ _ hv
 rw [h2 x hx] at hz
 simp only [Prod.mk.injEq, DataW.lit.injEq] at hz
 rw [E.inj _ _ hz.1]; exact hc
theorem map_put (hk : P.underlying k = some (.int .i64)) {t : TypeId} (ht : P.underlying t = some (.map k e))
 {ops : Array Oper} {rest : List Oper} {o : Oper} {a : Act} {Q : Exit → Act → World → Prop} (hgd : o.guard = none) (m x v : Operand) (hop : o.op = Op.mapUpdate t m x v)
 (W : World) (hW : Ext W w) (hWb : W.heap.size ≤ b) (hm : a.eval m = .map (some b)) (hown : MapF E k w b n f) (hn : n ≤ 1000000) (key : Int) (hkey : (Lit.int .i64 key).wf = true) (c : β) (hc : E.Ok c)
 (hx : a.eval x = .int .i64 key) (hv : a.eval v = E.val c)
 (h : ∀ w', Ext W w' → MapF E k w' b (n + 1) (fun y => if y = key then c else f y) → w.grownBy w' (some b) → wpList P ops Q rest (a.put o.dst undef) w') : wpList P ops Q (o :: rest) a w := by
 obtain ⟨D, h1, h2⟩ := hown
 refine wpList_mapUpdate_own w hgd m x v t hop k e (int_keyed hk) ht (plainElem P e) b n D hm h1 (by unfold maxLen; omega) _ _ (.int .i64 key) hx hv (keyOf_int_mk hk hkey) (.lit (E.lit c)) [] (E.read c hc) ?_
 intro w' hown' hg
 have hE : Ext W w' := Ext.of_below ((hW.below).grown hg hW.size (fun i hi => by cases hi; exact hWb))
 refine h w' hE ⟨_, hown', fun y hy => ?_⟩ hg
 show _ = DataW.lit (E.lit (if y = key then c else f y))
 by_cases hyk : y = key
 ·subst hyk
  rw [if_pos rfl, Maps.atKey_put_same h1.isMap (show WideAt.IsKeyLit (.int .i64 y) from trivial)]
 ·rw [if_neg hyk, Maps.atKey_put_other (by intro h9; exact hyk (by simpa using h9)), h2 y hy]
theorem map_get (hk : P.underlying k = some (.int .i64)) {t : TypeId} (ht : P.underlying t = some (.map k e))
 {ops : Array Oper} {rest : List Oper} {o : Oper} {a : Act} {Q : Exit → Act → World → Prop} (hgd : Region.wanted o (yielded ops a.tmps) = true) (m x : Operand) (hop : o.op = Op.lookup t m x false)
 (hm : a.eval m = .map (some b)) (hown : MapF E k w b n f) (key : Int) (hkey : (Lit.int .i64 key).wf = true) (hx : a.eval x = .int .i64 key)
 (h : wpList P ops Q rest (a.put o.dst (E.val (f key))) w) : wpList P ops Q (o :: rest) a w := by
 obtain ⟨D, h1, h2⟩ := hown
 refine wpList_step fun K' hK' => ?_
 rw [if_pos hgd]
 obtain ⟨u, ps, hrun, hv⟩ := h1.lookup (int_keyed hk) ht (E.made w) (E.read _ E.okz) (keyOf_int_mk hk hkey)
 obtain ⟨c, _, rfl, hz⟩ := E.back _ _ hv
 rw [h2 key hkey] at hz
 simp only [Prod.mk.injEq, DataW.lit.injEq] at hz
 have hc := E.inj _ _ hz.1
 subst hc
 unfold Oper.wp
 simp [execOp, hop, hm, hx, hrun, Result.andThen]
 exact hK' _ _ h
theorem map_get_as (hk : P.underlying k = some (.int .i64)) {t : TypeId} (ht : P.underlying t = some (.map k e))
 {ops : Array Oper} {rest : List Oper} {o : Oper} {a : Act} {Q : Exit → Act → World → Prop} (hgd : Region.wanted o (yielded ops a.tmps) = true) (m x : Operand) (hop : o.op = Op.lookup t m x false)
 (hm : a.eval m = .map (some b)) (hown : MapF E k w b n f) (key : Int) (hkey : (Lit.int .i64 key).wf = true) (hx : a.eval x = .int .i64 key) (u : Value) (hu : E.val (f key) = u)
 (h : wpList P ops Q rest (a.put o.dst u) w) : wpList P ops Q (o :: rest) a w := by
 subst hu
 exact map_get E hk ht hgd m x hop hm hown key hkey hx h
end
section
variable {P : Program} {k e : TypeId} {β : Type} (E : El P e β)
def MapK (k : TypeId) (w : World) (b n : Nat) (f : Int → β) (K : Lit → Prop) : Prop :=
 ∃ D : DataW Unit, w.ownsMap P k (plainElem P e) b n D ∧ (∀ x : Int, (Lit.int .i64 x).wf = true → D.atKey (.int .i64 x) (.lit (E.lit E.zero)) = .lit (E.lit (f x))) ∧ ∀ es, D = .map es → ∀ p ∈ es, K p.1
variable {w : World} {b n : Nat} {f : Int → β} {K : Lit → Prop}
theorem MapK.fn (h : MapK E k w b n f K) : MapF E k w b n f := by
 obtain ⟨D, h1, h2, _⟩ := h; exact ⟨D, h1, h2⟩
theorem MapK.of (h : MapK E k w b n f K) {w' : World} (he : Ext w w') : MapK E k w' b n f K := by
 obtain ⟨r, rfl⟩ := he
 obtain ⟨D, h1, h2⟩ := h
 exact ⟨D, h1.kept (row := none) ⟨rfl, rfl, rfl, by simp, fun i hi _ => heap_ext w r i hi⟩ (by simp), h2⟩
theorem MapK.made (w : World) (o : Nat) (ho : o = w.heap.size) : MapK E k (w.alloc (.map #[] 0)) o 0 (fun _ => E.zero) K := by
 subst ho
 exact ⟨_, World.ownsMap_made w P k (plainElem P e), fun x _ => rfl, fun es h p hp => by cases h; simp at hp⟩
theorem MapK.len (hk : P.underlying k = some (.int .i64)) {a1 a2 : Lit} (h : MapK E k w b n f (fun l => l = a1 ∨ l = a2)) {t : TypeId} (ht : P.underlying t = some (.map k e)) {ops : Array Oper} {rest : List Oper} {o : Oper} {a : Act} {Q : Exit → Act → World → Prop} (hgd : Region.wanted o (yielded ops a.tmps) = true) (m : Operand)
 (hop : o.op = Op.call { callee := Callee.builtin Builtin.len, args := #[m], argTypes := #[t] }) (hm : a.eval m = .map (some b)) (hK : ∀ c : Nat, c ≤ 2 → wpList P ops Q rest (a.put o.dst (.int .i64 c)) w) : wpList P ops Q (o :: rest) a w := by
 obtain ⟨D, h1, h2, h3⟩ := h
 refine wpList_step fun K' hK' => ?_
 rw [if_pos hgd]
 unfold Oper.wp
 simp [execOp, hop, resolve, invoke, builtin, hm, h1.len ht o.type, Result.andThen]
 refine hK' _ _ (hK _ ?_)
 obtain ⟨es, rfl, hp⟩ := h1.tidy (int_keyed hk)
 have h4 := h3 es rfl
 rw [Maps.size_eq]
 match es, hp, h4 with
 | [], _, _ => simp
 | [_], _, _ => simp
 | [_, _], _, _ => simp
 | p :: q :: r :: s, hp, h4 =>
  exfalso
  simp only [List.pairwise_cons, List.mem_cons] at hp
  have e1 := hp.1 q (.inl rfl)
  have e2 := hp.1 r (.inr (.inl rfl))
  have e3 := hp.2.1 r (.inl rfl)
  have u1 := h4 p (by simp)
  have u2 := h4 q (by simp)
  have u3 := h4 r (by simp)
  rcases u1 with u1 | u1 <;> rcases u2 with u2 | u2 <;> rcases u3 with u3 | u3 <;> simp_all
end
end Go.Proofs.YtadilekaombofaaDoor
