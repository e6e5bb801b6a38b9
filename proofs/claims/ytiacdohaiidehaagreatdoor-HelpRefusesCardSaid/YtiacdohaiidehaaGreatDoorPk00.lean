/- General laws, of no program in particular: 'ext': a world with more blocks behind those that it had (nothing that lay there has turned); regions that draw their order and whose operations only read or make memory. No condition. -/
import Derived.WalkKit
import Derived.WalkSpells
import Derived.WalkLawsBesides
import Derived.Handy
import Derived.BigQuiet
namespace Go.Proofs.YtiacdohaiidehaaGreatDoor
set_option linter.unusedSimpArgs false
set_option linter.unusedVariables false
open Go.RowKit
theorem hid {p : Prop} (h : p) : Hid p := h
structure Xt where
 new : Array Obj
 drawn : Nat
instance : Nonempty Xt := ⟨⟨#[], 0⟩⟩
def ext (w : World) (r : Xt) : World := { heap := w.heap ++ r.new, tape := w.tape, drawn := r.drawn, os := w.os, output := w.output }
@[simp, go_sem] theorem size_ext (w : World) (r : Xt) : (ext w r).heap.size = w.heap.size + r.new.size := by simp [ext]
@[go_sem] theorem lt_new1 (n x0 : Nat) : (n < n + 1 + x0) = True := eq_true (by omega)
@[go_sem] theorem lt_old1 {n a : Nat} (x0 : Nat) (h : n < a) : (n < a + x0) = True := eq_true (by omega)
@[go_sem] theorem lt_new2 (n x0 x1 : Nat) : (n < n + 1 + x0 + x1) = True := eq_true (by omega)
@[go_sem] theorem lt_old2 {n a : Nat} (x0 x1 : Nat) (h : n < a) : (n < a + x0 + x1) = True := eq_true (by omega)
@[go_sem] theorem lt_new3 (n x0 x1 x2 : Nat) : (n < n + 1 + x0 + x1 + x2) = True := eq_true (by omega)
@[go_sem] theorem lt_old3 {n a : Nat} (x0 x1 x2 : Nat) (h : n < a) : (n < a + x0 + x1 + x2) = True := eq_true (by omega)
@[go_sem] theorem lt_new4 (n x0 x1 x2 x3 : Nat) : (n < n + 1 + x0 + x1 + x2 + x3) = True := eq_true (by omega)
@[go_sem] theorem lt_old4 {n a : Nat} (x0 x1 x2 x3 : Nat) (h : n < a) : (n < a + x0 + x1 + x2 + x3) = True := eq_true (by omega)
@[go_sem] theorem lt_new5 (n x0 x1 x2 x3 x4 : Nat) : (n < n + 1 + x0 + x1 + x2 + x3 + x4) = True := eq_true (by omega)
@[go_sem] theorem lt_old5 {n a : Nat} (x0 x1 x2 x3 x4 : Nat) (h : n < a) : (n < a + x0 + x1 + x2 + x3 + x4) = True := eq_true (by omega)
@[go_sem] theorem lt_new6 (n x0 x1 x2 x3 x4 x5 : Nat) : (n < n + 1 + x0 + x1 + x2 + x3 + x4 + x5) = True := eq_true (by omega)
@[go_sem] theorem lt_old6 {n a : Nat} (x0 x1 x2 x3 x4 x5 : Nat) (h : n < a) : (n < a + x0 + x1 + x2 + x3 + x4 + x5) = True := eq_true (by omega)
@[go_sem] theorem lt_new7 (n x0 x1 x2 x3 x4 x5 x6 : Nat) : (n < n + 1 + x0 + x1 + x2 + x3 + x4 + x5 + x6) = True := eq_true (by omega)
@[go_sem] theorem lt_old7 {n a : Nat} (x0 x1 x2 x3 x4 x5 x6 : Nat) (h : n < a) : (n < a + x0 + x1 + x2 + x3 + x4 + x5 + x6) = True := eq_true (by omega)
@[go_sem] theorem lt_new8 (n x0 x1 x2 x3 x4 x5 x6 x7 : Nat) : (n < n + 1 + x0 + x1 + x2 + x3 + x4 + x5 + x6 + x7) = True := eq_true (by omega)
@[go_sem] theorem lt_old8 {n a : Nat} (x0 x1 x2 x3 x4 x5 x6 x7 : Nat) (h : n < a) : (n < a + x0 + x1 + x2 + x3 + x4 + x5 + x6 + x7) = True := eq_true (by omega)
@[go_sem] theorem lt_new9 (n x0 x1 x2 x3 x4 x5 x6 x7 x8 : Nat) : (n < n + 1 + x0 + x1 + x2 + x3 + x4 + x5 + x6 + x7 + x8) = True := eq_true (by omega)
@[go_sem] theorem lt_old9 {n a : Nat} (x0 x1 x2 x3 x4 x5 x6 x7 x8 : Nat) (h : n < a) : (n < a + x0 + x1 + x2 + x3 + x4 + x5 + x6 + x7 + x8) = True := eq_true (by omega)
@[go_sem] theorem lt_new10 (n x0 x1 x2 x3 x4 x5 x6 x7 x8 x9 : Nat) : (n < n + 1 + x0 + x1 + x2 + x3 + x4 + x5 + x6 + x7 + x8 + x9) = True := eq_true (by omega)
@[go_sem] theorem lt_old10 {n a : Nat} (x0 x1 x2 x3 x4 x5 x6 x7 x8 x9 : Nat) (h : n < a) : (n < a + x0 + x1 + x2 + x3 + x4 + x5 + x6 + x7 + x8 + x9) = True := eq_true (by omega)
@[go_sem] theorem lt_new11 (n x0 x1 x2 x3 x4 x5 x6 x7 x8 x9 x10 : Nat) : (n < n + 1 + x0 + x1 + x2 + x3 + x4 + x5 + x6 + x7 + x8 + x9 + x10) = True := eq_true (by omega)
@[go_sem] theorem lt_old11 {n a : Nat} (x0 x1 x2 x3 x4 x5 x6 x7 x8 x9 x10 : Nat) (h : n < a) : (n < a + x0 + x1 + x2 + x3 + x4 + x5 + x6 + x7 + x8 + x9 + x10) = True := eq_true (by omega)
@[go_sem] theorem lt_new12 (n x0 x1 x2 x3 x4 x5 x6 x7 x8 x9 x10 x11 : Nat) : (n < n + 1 + x0 + x1 + x2 + x3 + x4 + x5 + x6 + x7 + x8 + x9 + x10 + x11) = True := eq_true (by omega)
@[go_sem] theorem lt_old12 {n a : Nat} (x0 x1 x2 x3 x4 x5 x6 x7 x8 x9 x10 x11 : Nat) (h : n < a) : (n < a + x0 + x1 + x2 + x3 + x4 + x5 + x6 + x7 + x8 + x9 + x10 + x11) = True := eq_true (by omega)
@[go_sem] theorem lt_new13 (n x0 x1 x2 x3 x4 x5 x6 x7 x8 x9 x10 x11 x12 : Nat) : (n < n + 1 + x0 + x1 + x2 + x3 + x4 + x5 + x6 + x7 + x8 + x9 + x10 + x11 + x12) = True := eq_true (by omega)
@[go_sem] theorem lt_old13 {n a : Nat} (x0 x1 x2 x3 x4 x5 x6 x7 x8 x9 x10 x11 x12 : Nat) (h : n < a) : (n < a + x0 + x1 + x2 + x3 + x4 + x5 + x6 + x7 + x8 + x9 + x10 + x11 + x12) = True := eq_true (by omega)
@[go_sem] theorem lt_new14 (n x0 x1 x2 x3 x4 x5 x6 x7 x8 x9 x10 x11 x12 x13 : Nat) : (n < n + 1 + x0 + x1 + x2 + x3 + x4 + x5 + x6 + x7 + x8 + x9 + x10 + x11 + x12 + x13) = True := eq_true (by omega)
@[go_sem] theorem lt_old14 {n a : Nat} (x0 x1 x2 x3 x4 x5 x6 x7 x8 x9 x10 x11 x12 x13 : Nat) (h : n < a) : (n < a + x0 + x1 + x2 + x3 + x4 + x5 + x6 + x7 + x8 + x9 + x10 + x11 + x12 + x13) = True := eq_true (by omega)
theorem heap_ext (w : World) (r : Xt) (k : Nat) (h : k < w.heap.size) : (ext w r).heap[k]? = w.heap[k]? := by
 simp only [ext]; rw [Array.getElem?_append_left h]
@[go_sem] theorem cell?_ext (w : World) (r : Xt) (n i : Nat) (hn : n < w.heap.size) : (ext w r).cell? ⟨n, i, none⟩ = w.cell? ⟨n, i, none⟩ :=
 World.cell?_of_block (w := w) (heap_ext w r n hn)
@[go_sem] theorem frozen?_ext (w : World) (r : Xt) (n i : Nat) (hn : n < w.heap.size) : (ext w r).frozen? ⟨n, i, none⟩ = w.frozen? ⟨n, i, none⟩ :=
 World.frozen?_of_block (w := w) (heap_ext w r n hn)
theorem ext_ext (w : World) (r s : Xt) : ext (ext w r) s = ext w ⟨r.new ++ s.new, s.drawn⟩ := by simp [ext]
theorem ext_drew (w : World) (r : Xt) : (ext w r).drew = ext w ⟨r.new, r.drawn + 1⟩ := rfl
@[go_sem] theorem drew_ext (w : World) (r : Xt) : ext w.drew r = ext w r := rfl
def Ext (w w' : World) : Prop := ∃ r, w' = ext w r
theorem ext_zero (w : World) : w = ext w ⟨#[], w.drawn⟩ := by simp [ext]
theorem Ext.refl (w : World) : Ext w w := ⟨_, ext_zero w⟩
theorem Ext.trans {a b c : World} (h : Ext a b) (k : Ext b c) : Ext a c := by
 obtain ⟨r, rfl⟩ := h; obtain ⟨s, rfl⟩ := k; exact ⟨_, ext_ext a r s⟩
theorem Ext.ext {a b : World} (h : Ext a b) (r : Xt) : Ext a (ext b r) := h.trans ⟨r, rfl⟩
theorem Ext.drew {a b : World} (h : Ext a b) : Ext a b.drew := by
 obtain ⟨r, rfl⟩ := h; exact ⟨_, ext_drew a r⟩
theorem Ext.drewN {a b : World} (h : Ext a b) (n : Nat) : Ext a (b.drewN n) := by
 obtain ⟨r, rfl⟩ := h; exact ⟨⟨r.new, r.drawn + n⟩, rfl⟩
theorem Ext.of_alloc (w : World) (o : Obj) : Ext w (w.alloc o) := ⟨⟨#[o], w.drawn⟩, by show ({ w with heap := w.heap.push o } : World) = _; simp [Go.Proofs.YtiacdohaiidehaaGreatDoor.ext, -World.alloc_eq]⟩
theorem Ext.alloc {a b : World} (h : Ext a b) (o : Obj) : Ext a (b.alloc o) := h.trans (Ext.of_alloc b o)
theorem Ext.of_below {w w' : World} (h : Below w.heap.size w w') : Ext w w' := by
 refine ⟨⟨w'.heap.extract w.heap.size w'.heap.size, w'.drawn⟩, ?_⟩
 obtain ⟨h1, h2, h3, h4, h5⟩ := h
 have e : w'.heap = w.heap ++ w'.heap.extract w.heap.size w'.heap.size := by
  apply Array.ext_getElem?
  intro i
  by_cases hi : i < w.heap.size
  ·rw [Array.getElem?_append_left hi]; exact h5 i hi
  ·rw [Array.getElem?_append_right (by omega), Array.getElem?_extract]
   by_cases h' : i < w'.heap.size
   ·rw [if_pos (by omega), show w.heap.size + (i - w.heap.size) = i from by omega]
   ·rw [if_neg (by omega), Array.getElem?_eq_none (by omega)]
 cases w' with | mk heap tape drawn os output =>
 simp only [Go.Proofs.YtiacdohaiidehaaGreatDoor.ext] at *
 subst h1 h2 h3
 rw [← e]
theorem Ext.below {w w' : World} (h : Ext w w') : Below w.heap.size w w' := by
 obtain ⟨r, rfl⟩ := h
 exact ⟨rfl, rfl, rfl, by simp, fun k hk => heap_ext w r k hk⟩
theorem Ext.setCell {a b : World} (h : Ext a b) {p : Addr} (hp : a.heap.size ≤ p.block) (u : Value) : Ext a (b.setCell p u) := Ext.of_below (h.below.setCell hp u)
theorem Ext.size {a b : World} (h : Ext a b) : a.heap.size ≤ b.heap.size := h.below.size
theorem Ext.cell {w w' : World} (h : Ext w w') {a : Addr} {v : Value} (hc : w.cell? a = some v) : w'.cell? a = some v := by
 rw [h.below.cell (World.block_lt_of_cell? w a hc)]; exact hc
theorem region_ext {P : Program} {id : Nat} {Q : Exit → Act → World → Prop} {a : Act} {w : World} {l : List Oper} (hm : P.follows .mixedOrders = true) (hB : Region.lexB .any l.toArray = true)
 (h : wpQuiet P l.toArray (fun w' => ∃ r, w' = ext w r) (fun a' => ∀ w', (∃ r, w' = ext w r) → Q .normal a' w') l a) : (Code.region id l.toArray true).wp P Q a w :=
 wp_region_quiet (C := fun w' => ∃ r, w' = ext w r) hm hB ⟨⟨#[], w.drawn + 1⟩, by simp [ext]⟩ (by simpa using h)
theorem quiet_ext {P : Program} {f : FuncId} {args : Array Value} {w : World} {r : Xt} {v : Value}
 (h : Calls P f args (ext w r) fun e w' => e = .returned v ∧ ∃ m, w' = ext (ext w r) m) : Calls P f args (ext w r) fun e w'' => e = .returned v ∧ ∃ m, w'' = ext w m :=
 h.mono fun _ _ ⟨he, m, hm⟩ => ⟨he, _, hm.trans (ext_ext w r m)⟩
def Own {α : Type} (w : World) (base : Nat) (e : TypeId) (size : Nat) (enc : α → List Value) (v : Value) (l : List α) : Prop := w.ownsRow base e size v l.length (l.flatMap enc)
section
variable {α : Type} {enc : α → List Value} {base : Nat} {e : TypeId} {size : Nat} {v : Value} {l : List α} {w : World}
theorem Own.nil : Own w base e size enc (.slice none 0 0) [] := World.ownsRow_nil w base e size
theorem Own.alloc (h : Own w base e size enc v l) (o : Obj) : Own (w.alloc o) base e size enc v l := World.ownsRow.alloc h o
theorem Own.ext (h : Own w base e size enc v l) (r : Xt) : Own (ext w r) base e size enc v l :=
 World.ownsRow.kept (row := none) h ⟨rfl, rfl, rfl, by simp, fun k hk _ => heap_ext w r k hk⟩ (by cases v.ownBlock <;> simp)
theorem Own.drew (h : Own w base e size enc v l) : Own w.drew base e size enc v l := h
theorem Own.mono {base' : Nat} (h : Own w base e size enc v l) (hb : base' ≤ base) : Own w base' e size enc v l := by
 obtain ⟨h1, h2⟩ := h
 refine ⟨h1, h2.imp id ?_⟩
 rintro ⟨g, cap, cur, rfl, hg, r⟩
 exact ⟨g, cap, cur, rfl, by omega, r⟩
theorem Own.made (cs : Array Value) (l : List α) (n : Nat) (hn : n = l.length) (hb : base ≤ w.heap.size) (hm : n ≤ maxLen) (hc : cs.toList = l.flatMap enc) (hs : cs.size = n * size) :
 Own (w.alloc (.cells cs e)) base e size enc (.slice (some ⟨w.heap.size, 0, none⟩) n n) l := by
 subst hn
 have := World.ownsRow_lit (e := e) w cs l.length hb hm hs
 rw [hc] at this
 exact this
theorem own_append {P : Program} {t : TypeId} {i : TypeInfo} {z : Value} {bytes : Nat} (ht : P.underlying t = some (.slice e)) (hi : P.info? e = some i) (hz : i.zero = some z)
 (hsize : i.size = size) (hby : i.bytes = bytes) (hzs : z.cells.size = size) (hsz : 0 < size) (henc : ∀ x, (enc x).length = size) (hone : ∀ x, ∀ u ∈ enc x, u.oneCell' = true)
 {ops : Array Oper} {rest : List Oper} {o : Oper} {a : Act} {Q : Exit → Act → World → Prop} (hgd : o.guard = none)
 (s x : Operand) (ho : o.op = .call { callee := .builtin .append, args := #[s, x], argTypes := #[t, t] })
 (W : World) (hW : Ext W w) (hWb : W.heap.size ≤ base) (hbw : base ≤ w.heap.size) (hs : a.eval s = v) (hown : Own w base e size enc v l)
 (ad : Addr) (m c : Nat) (hx : a.eval x = .slice (some ad) m c) (news : List α) (hm : news.length = m)
 (hnews : ∀ (j : Nat) (u : Value), (news.flatMap enc)[j]? = some u → w.cell? (ad.add j) = some u)
 (hlen : l.length + m ≤ maxLen) (hbytes : (l.length + m) * bytes ≤ 140737488355328)
 (h : ∀ v' r, Own (ext W r) base e size enc v' (l ++ news) → wpList P ops Q rest (a.put o.dst v') (Go.Proofs.YtiacdohaiidehaaGreatDoor.ext W r)) : wpList P ops Q (o :: rest) a w := by
 have hl : (news.flatMap enc).length = m * size := by
  subst hm
  clear hnews hx hlen hbytes h
  induction news with
  | nil => simp
  | cons y ys ih => simp only [List.flatMap_cons, List.length_append, henc, List.length_cons, Nat.add_mul]; rw [ih]; omega
 refine wpList_append_own w hgd s x t ho base e i z size bytes ht hi hz hsize hby hzs hsz v l.length (l.flatMap enc) hs hown ad m c (news.flatMap enc) hx hl hnews
  (fun u hu => by obtain ⟨y, _, hy⟩ := List.mem_flatMap.1 hu; exact hone y u hy) hlen hbytes hbw ?_
 intro v' w' hown' hg _
 have hE : Ext W w' := Ext.of_below ((hW.below).grown hg hW.size (fun k hk => by
  have := (World.ownsRow.lt hown k hk).1; omega))
 obtain ⟨r, rfl⟩ := hE
 refine h v' r ?_
 have e1 : (l ++ news).length = l.length + m := by simp [hm]
 have e2 : (l ++ news).flatMap enc = l.flatMap enc ++ news.flatMap enc := by simp
 unfold Own
 rw [e1, e2]
 exact hown'
end
theorem news_new {w : World} {e : TypeId} {cs : Array Value} {L : List Value} (hc : cs.toList = L) (n : Nat) (hn : n = w.heap.size) : ∀ (j : Nat) (u : Value), L[j]? = some u → (w.alloc (.cells cs e)).cell? ((⟨n, 0, none⟩ : Addr).add j) = some u := by
 intro j u hu
 subst hc
 have hadd : (⟨n, 0, none⟩ : Addr).add j = ⟨n, j, none⟩ := by unfold Addr.add; split <;> simp_all
 rw [hadd, World.cell?_alloc_at _ _ _ _ hn]
 simpa using hu
theorem Own.shape {α : Type} {enc : α → List Value} {base : Nat} {e : TypeId} {size : Nat} {v : Value} {l : List α} {w : World} (h : Own w base e size enc v l) : ∃ a c, v = .slice a l.length c := by
 rcases h.2 with ⟨rfl, h0⟩ | ⟨g, cap, cur, rfl, _⟩
 ·exact ⟨none, 0, by rw [h0]⟩
 ·exact ⟨_, _, rfl⟩
theorem opaque_new {W X : World} (h : Ext W X) (o : Obj) {n : Nat} (hn : X.heap.size = n) : ∃ r g, X.alloc o = ext W r ∧ n = g ∧ W.heap.size ≤ g ∧ g < (ext W r).heap.size := by
 obtain ⟨r, hr⟩ := h.alloc o
 refine ⟨r, n, hr, rfl, by rw [← hn]; exact h.size, ?_⟩
 rw [← hr, World.size_alloc]; omega
def lenOfV : Value → Nat | .slice _ n _ => n | _ => 0
theorem ret_int {k : IntKind} {a b : Int} (h : a = b) : Ending.returned (.int k a) = .returned (.int k b) := by rw [h]
theorem ret_bool {a b : Bool} (h : a = b) : Ending.returned (.bool a) = .returned (.bool b) := by rw [h]
theorem xH {p : Prop} (h : Hid p) : p := h
theorem xR (w : World) : Ext w w := Ext.refl w
theorem xX {a b : World} (h : Ext a b) (r : Xt) : Ext a (ext b r) := h.ext r
theorem xA {a b : World} (h : Ext a b) (o : Obj) : Ext a (b.alloc o) := h.alloc o
theorem xD {a b : World} (h : Ext a b) : Ext a b.drew := h.drew
theorem xN {a b : World} (h : Ext a b) (n : Nat) : Ext a (b.drewN n) := h.drewN n
theorem xS {a b : World} (h : Ext a b) {p : Addr} (hp : a.heap.size ≤ p.block) (u : Value) : Ext a (b.setCell p u) := h.setCell hp u
theorem pA {α : Type} (l : List α) (i : Nat) (a : α) : l.toArray.setIfInBounds i a = (l.set i a).toArray := List.setIfInBounds_toArray l i a
theorem pB {α : Type} (x y : α) (l : List α) : (x :: l).set 0 y = y :: l := rfl
theorem pC {α : Type} (x y : α) (l : List α) (n : Nat) : (x :: l).set (n + 1) y = x :: l.set n y := rfl
theorem exP {w w' : World} (h : Ext w w' := by (show Ext _ _; repeat first | (with_reducible first | (refine xH ?_; assumption) | exact xR _ | refine xX ?_ _ | refine xA ?_ _) | refine xD ?_ | refine xN ?_ _ | exact xR _)) : Ext w w' := h
theorem exF {w w' : World} (h : Ext w w' := by (show Ext _ _; repeat with_reducible first | (refine xH ?_; assumption) | exact xR _ | refine xX ?_ _ | refine xA ?_ _ | refine xD ?_ | refine xS ?_ (by (try dsimp only); first | omega | (simp; done) | (simp; omega)) _)) : Ext w w' := h
end Go.Proofs.YtiacdohaiidehaaGreatDoor
