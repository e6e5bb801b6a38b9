/- Where a descriptor may lie; the walk of package desc's Field. The code of package help, plain: a stack of helps, and what Next does. No program in sight. The example of the laws on helps: a help of the first operation alone, plain. Plan (3, 8, 1), reference 16777217, status word at 64, cells at 56 and 57. Walks of package help: values, ask, end, look, stale. -/
import Derived.Test.YtiacdohaiidehaaGreatDoorPk28
import Derived.Test.YtiacdohaiidehaaGreatDoorPk13
import Derived.Laws.EntriesVeiled
import Derived.Deep.MidRow
namespace Go.Proofs.YtiacdohaiidehaaGreatDoor
set_option linter.unusedSimpArgs false
set_option linter.unusedVariables false
open Go.RowKit
theorem atN_bd {t c b : Int} {p : Nat} {i more : Int} (hm : 0 ≤ more ∧ more ≤ 2) : -1 ≤ atN t c b p i more ∧ atN t c b p i more ≤ 3007 * p + 3002 := by
 unfold atN
 split
 ·rename_i h
  obtain ⟨hr, h0, h1⟩ := h
  have hk := (right_lok hr).1
  have := from_bd hk p
  have := prod_bd hk p h0 h1
  omega
 ·omega
theorem place_bd (t c b who : Int) : (-1 ≤ (placeN t c b who).1 ∧ (placeN t c b who).1 ≤ 30000) ∧ 0 ≤ (placeN t c b who).2 ∧ (placeN t c b who).2 ≤ 32 := by
 have h6 := atN_bd (t := t) (c := c) (b := b) (p := 6) (i := who - 9) (more := 0) (by omega)
 have h4 := atN_bd (t := t) (c := c) (b := b) (p := 4) (i := wrap64 (who - 1)) (more := 0) (by omega)
 unfold placeN
 by_cases h9 : 9 ≤ who
 ·simp only [h9, if_true]
  split <;> constructor <;> simp <;> omega
 ·simp only [h9, if_false]
  split <;> constructor <;> simp <;> omega
def fieldN (t c b who n part : Int) : Int × Int :=
 if checkN t c b ≠ 0 then (0, 1) else if n < 0 ∨ (placeN t c b who).2 ≤ n ∨ part < 0 ∨ 3 ≤ part then (0, 3) else ((placeN t c b who).1 + (2 + 3 * n + part), 0)
set_option maxRecDepth 100000 in
set_option maxHeartbeats 2000000 in
theorem field_any (t c b who n part : Int) (hw1 : -9223372036854775808 ≤ who) (hw2 : who ≤ 9223372036854775807) (w : World) (hs : Szs w) :
 Calls Tryz.prog 118 #[.agg #[.int .i64 t, .int .i64 c, .int .i64 b], .int .i64 who, .int .i64 n, .int .i64 part] w fun y w' => y = .returned (.tuple #[.int .i64 (fieldN t c b who n part).1, .int .i64 (fieldN t c b who n part).2]) ∧ ∃ r, w' = ext w r := by
 have HS := hid hs
 clear hs
 obtain ⟨q, hq⟩ : ∃ q, q = fieldN t c b who n part := ⟨_, rfl⟩
 have HQ := hid hq
 rw [← hq]
 clear hq
 obtain ⟨⟨hp1, hp2⟩, hp3, hp4⟩ := place_bd t c b who
 obtain ⟨⟨pa, pm⟩, hp⟩ : ∃ p, p = placeN t c b who := ⟨_, rfl⟩
 rw [← hp] at hp1 hp2 hp3 hp4
 dsimp only at hp1 hp2 hp3 hp4
 have HP := hid hp
 clear hp
 go_enter Tryz.func118, Tryz.ntmps118
 go_wp2_with fail
 go_call (check_any t c b _ (HS.out.of (by exact exP))) as e w' ⟨rfl, r1, rfl⟩
 by_cases h1 : checkN t c b = 0
 rotate_left
 ·have HR := hid (show q = (0, 1) by rw [HQ.out]; unfold fieldN; rw [if_pos h1])
  have hb : (checkN t c b != 0) = true := by simpa using h1
  clear h1
  go_wp2_with fail
  go_ret2
  exact ⟨by rw [HR.out]; rfl, by exact exP⟩
 have H1 := hid h1
 rw [h1]
 clear h1
 go_wp2_with fail
 go_call (place_any t c b who hw1 hw2 _ (HS.out.of (by exact exP))) as e w' ⟨rfl, r2, rfl⟩
 rw [← HP.out]
 by_cases hbad : n < 0 ∨ pm ≤ n ∨ part < 0 ∨ 3 ≤ part
 ·have HR := hid (show q = (0, 3) by rw [HQ.out]; unfold fieldN; rw [if_neg (by rw [H1.out]; simp), if_pos (by rw [← HP.out]; exact hbad)])
  have hc : n < 0 ∨ (¬ n < 0 ∧ pm ≤ n) ∨ (¬ n < 0 ∧ ¬ pm ≤ n ∧ part < 0) ∨ (¬ n < 0 ∧ ¬ pm ≤ n ∧ ¬ part < 0 ∧ 3 ≤ part) := by omega
  clear hbad
  rcases hc with h | ⟨h, h'⟩ | ⟨h, h', h''⟩ | ⟨h, h', h'', h'''⟩
  all_goals
   go_wp2_with fail
   go_ret2
   exact ⟨by rw [HR.out]; rfl, by exact exP⟩
 ·have HR := hid (show q = (pa + (2 + 3 * n + part), 0) by rw [HQ.out]; unfold fieldN; rw [if_neg (by rw [H1.out]; simp), if_neg (by rw [← HP.out]; exact hbad), ← HP.out])
  have h1 : ¬ n < 0 := by omega
  have h2 : ¬ pm ≤ n := by omega
  have h3 : ¬ part < 0 := by omega
  have h4 : ¬ 3 ≤ part := by omega
  clear hbad
  go_wp2_with fail
  go_ret2
  exact ⟨by rw [HR.out]; rfl, by exact exP⟩
open Go.RowKit
structure Hd where
 ref : Int
 at_ : Int
 who : Int
 seq : Int
 most : Int
 ws : List Wd
 many : Int
 es : List En
 i : Nat
 vd : Int
 met : Wd
 ended : Bool
 nx : Nat
 bh : Nat
abbrev HpO := List Hd × A8 × Bool
def enZ : En := ⟨0, 0, 0, 0, 0, false⟩
def Hd.cur (h : Hd) : En := h.es[h.i]?.getD enZ
def lookA (p : Int) : A8 := ⟨5, p, (0, 0, 0), (0, 0, 0)⟩
def loadA (p : Int) : A8 := ⟨1, p, (0, 0, 0), (0, 0, 0)⟩
def flushA (p : Int) : A8 := ⟨7, p, (0, 0, 0), (0, 0, 0)⟩
def syncA : A8 := ⟨8, 0, (0, 0, 0), (0, 0, 0)⟩
def swapA (p : Int) (o n : Wd) : A8 := ⟨6, p, o, n⟩
def hpAsk (h : Hd) (a : A8) (p : Nat) : Hd × A8 × Bool := ({ h with nx := p }, a, false)
def hpEnd (h : Hd) (v : Int) : Hd × A8 × Bool := ({ h with ended := true, vd := v }, a8Z, true)
def hpLook (h : Hd) (p : Nat) : Hd × A8 × Bool := hpAsk h (lookA h.at_) p
def hpStale (h : Hd) (g : Wd) : Bool := ! (decide (g.2.1 = h.seq) && decide (g.2.2 = 0) && decide (0 ≤ g.1) && decide (g.1 ≤ 2))
def hpFirst (h : Hd) (g : Wd) : Hd × A8 × Bool := if hpStale h g = true then hpEnd h 4 else hpAsk h (loadA (h.at_ + 1)) 2
def hpLoad (t c b : Int) (h : Hd) : Hd × A8 × Bool := if (h.ws.length : Int) = 3 * h.many then hpLook h 4 else hpAsk h (loadA (fieldN t c b h.who (h.ws.length / 3 : Nat) (h.ws.length % 3 : Nat)).1) 3
def hpCounted (t c b : Int) (h : Hd) (g : Wd) : Hd × A8 × Bool := if g.1 < 1 ∨ h.most < g.1 ∨ ¬ (g.2.1 = 0 ∧ g.2.2 = 0) then hpEnd h 4 else hpLoad t c b { h with many := g.1 }
def hpLoaded (t c b : Int) (h : Hd) (g : Wd) : Hd × A8 × Bool := hpLoad t c b { h with ws := h.ws ++ [g] }
def hpUnp (t c b : Int) : List Wd → List En → Option (List En)
 | x :: y :: z :: l, out => if unpackB x y z = true ∧ mayN t c b x.1 = true ∧ (∀ e, out.getLast? = some e → e.loc < x.1) then hpUnp t c b l (out ++ [unpackE x y z]) else none
 | _, out => some out
def hpUnpacked (t c b : Int) (ws : List Wd) : Option (List En) := (hpUnp t c b ws []).bind fun l => if checkE l = 0 then some l else none
def hpSettle (h : Hd) : Hd × A8 × Bool := hpAsk h (swapA h.at_ (0, h.seq, 0) (h.vd, h.seq, 0)) 11
def hpFlushed (h : Hd) : Hd × A8 × Bool := if h.i = h.es.length then hpAsk h syncA h.bh else hpAsk { h with i := h.i + 1 } (flushA h.cur.loc) 9
def hpFlush (h : Hd) (p : Nat) : Hd × A8 × Bool := hpFlushed { h with i := 0, bh := p }
def hpDecide (dur : Bool) (h : Hd) (v : Int) : Hd × A8 × Bool := if v = 1 ∧ dur = true then hpFlush { h with vd := v } 10 else hpSettle { h with vd := v }
def enOld (e : En) : Wd := (e.val, e.ver, e.ref)
def hpHeld (h : Hd) : Wd := (h.cur.val, h.cur.ver, h.ref)
def hpInstall (dur : Bool) (h : Hd) : Hd × A8 × Bool := if h.i = h.es.length then hpDecide dur h 1 else hpAsk h (swapA h.cur.loc (enOld h.cur) (hpHeld h)) 5
def hpRelease (dur : Bool) (h : Hd) : Hd × A8 × Bool := if dur = true then hpAsk h (flushA h.at_) 12 else hpLook h 14
def hpChecked (t c b : Int) (dur : Bool) (h : Hd) (g : Wd) : Hd × A8 × Bool :=
 if hpStale h g = true then hpEnd h 4 else
 match hpUnpacked t c b h.ws with
 | none => hpEnd h 4
 | some l => if g.1 ≠ 0 then hpRelease dur { h with es := l } else hpInstall dur { h with es := l }
def hpForeign (t c b : Int) (h : Hd) (g : Wd) : Bool := ! decide (g.2.2 = h.ref) && (! decide ((whoN g.2.2).1 = 0) && decide (0 ≤ (placeN t c b (whoN g.2.2).1).1))
def hpInstalled (t c b : Int) (dur : Bool) (h : Hd) (g : Gt) : Hd × A8 × Bool :=
 if g.2 = true ∨ g.1 = hpHeld h then hpInstall dur { h with i := h.i + 1 }
 else if hpForeign t c b h g.1 = true then hpLook { h with met := g.1 } 6
 else hpDecide dur h 2
def hpFree (dur : Bool) (h : Hd) : Hd × A8 × Bool := if h.i < h.es.length then hpAsk h (lookA h.cur.loc) 15 else if dur = true then hpFlush h 17 else hpEnd h h.vd
def hpKnown (dur : Bool) (h : Hd) (g : Wd) : Hd × A8 × Bool := hpFree dur { h with vd := if g = (1, h.seq, 0) ∨ g = (2, h.seq, 0) then g.1 else 4, i := 0 }
def hpFreed (dur : Bool) (h : Hd) : Hd × A8 × Bool := hpFree dur { h with i := h.i + 1 }
def relN (g : Wd) (v : Int) (wr : Bool) : Wd × Int := if kindN g.2.2 ≠ 1 then (g, 13) else if wr = true then (if g.2.1 = 4294967295 then (g, 9) else ((v, (g.2.1 + 1), 0), 0)) else ((g.1, g.2.1, 0), 0)
def hpFound (dur : Bool) (h : Hd) (g : Wd) : Hd × A8 × Bool :=
 if g.2.2 = h.ref ∧ (relN g h.cur.new (h.cur.wr && decide (h.vd = 1))).2 = 0 then hpAsk h (swapA h.cur.loc g (relN g h.cur.new (h.cur.wr && decide (h.vd = 1))).1) 16
 else hpFreed dur h
def hpNew (t c b : Int) (ref : Int) : Hd := ⟨ref, (placeN t c b (whoN ref).1).1, (whoN ref).1, (whoN ref).2, (placeN t c b (whoN ref).1).2, [], 0, [], 0, 0, (0, 0, 0), false, 0, 0⟩
def hpOne (t c b : Int) (dur : Bool) (h : Hd) (g : Gt) : Hd × A8 × Bool :=
 match h.nx with
 | 0 => hpLook h 1
 | 1 => hpFirst h g.1
 | 2 => hpCounted t c b h g.1
 | 3 => hpLoaded t c b h g.1
 | 4 => hpChecked t c b dur h g.1
 | 5 => hpInstalled t c b dur h g
 | 8 => hpInstall dur h
 | 9 => hpFlushed h
 | 10 => hpSettle h
 | 11 => hpRelease dur h
 | 12 => hpAsk h syncA 13
 | 13 => hpLook h 14
 | 14 => hpKnown dur h g.1
 | 15 => hpFound dur h g.1
 | 16 => hpFreed dur h
 | 17 => hpEnd h h.vd
 | _ => hpRelease dur h
def hpStat : List Hd → Int × Bool
 | [] => (0, false)
 | d :: _ => if d.ended = true then (d.vd, true) else (0, false)
def hpOuter (dur : Bool) (d : Hd) (o : HpO) : HpO :=
 if o.2.2 = false then ({ d with nx := 7 } :: o.1, o.2.1, false)
 else if (hpStat o.1).1 = 4 then
  let p := hpAsk d (swapA d.cur.loc d.met (d.met.1, d.met.2.1, 0)) 8
  ([p.1], p.2.1, p.2.2)
 else
  let p := hpInstall dur d
  ([p.1], p.2.1, p.2.2)
def hpNext (t c b : Int) (dur : Bool) : List Hd → Gt → HpO
 | [], _ => ([], a8Z, true)
 | d :: rest, g =>
  if d.ended = true then (d :: rest, a8Z, true) else
  match rest with
  | [] =>
   if d.nx = 6 then
    (if g.1 = (0, d.seq, 0) then hpOuter dur d ([(hpLook (hpNew t c b d.met.2.2) 1).1], lookA (hpNew t c b d.met.2.2).at_, false)
     else ([(hpRelease dur d).1], (hpRelease dur d).2.1, (hpRelease dur d).2.2))
   else ([(hpOne t c b dur d g).1], (hpOne t c b dur d g).2.1, (hpOne t c b dur d g).2.2)
  | r :: rs => hpOuter dur d (hpNext t c b dur (r :: rs) g)
open Go.RowKit
def exG : List Gt := [((0, 1, 0), true), ((2, 0, 0), true), ((56, 1, 0), true), ((5, 0, 0), true), ((6, 0, 0), true), ((57, 1, 0), true), ((7, 0, 0), true), ((8, 0, 0), true), ((0, 1, 0), true), ((5, 0, 0), true), ((7, 0, 0), true), ((0, 1, 0), true), ((1, 1, 0), true), ((5, 0, 16777217), true), ((5, 0, 16777217), true), ((7, 0, 16777217), true), ((7, 0, 16777217), true)]
def exS : Nat → HpO
 | 0 => hpNext 3 8 1 false [hpNew 3 8 1 16777217] ((0, 0, 0), false)
 | n + 1 => hpNext 3 8 1 false (exS n).1 (exG[n]?.getD ((0, 0, 0), false))
def exA : List A8 := [lookA 64, loadA 65, loadA 66, loadA 67, loadA 68, loadA 69, loadA 70, loadA 71, lookA 64, swapA 56 (5, 0, 0) (5, 0, 16777217), swapA 57 (7, 0, 0) (7, 0, 16777217), swapA 64 (0, 1, 0) (1, 1, 0), lookA 64, lookA 56, swapA 56 (5, 0, 16777217) (6, 1, 0), lookA 57, swapA 57 (7, 0, 16777217) (8, 1, 0)]
theorem ex_acts : (List.range 17).map (fun j => (exS j).2) = exA.map (fun a => (a, false)) := by kernel_rfl
theorem ex_end : (exS 17).2.2 = true ∧ hpStat (exS 17).1 = (1, true) := by constructor <;> kernel_rfl
open Go.RowKit
structure Hr where
 t : Int
 c : Int
 b : Int
 ref : Int
 pt : Int
 who : Int
 seq : Int
 most : Int
 dur : Bool
 ws : Value
 many : Int
 es : Value
 i : Int
 vd : Int
 m1 : Int
 m2 : Int
 m3 : Int
 inn : Value
 ended : Bool
 nx : Value
 bh : Value
def hL (h : Hr) : List Value := [.int .i64 h.t, .int .i64 h.c, .int .i64 h.b, .int .u32 h.ref, .int .i64 h.pt, .int .i64 h.who, .int .i64 h.seq, .int .i64 h.most, .bool h.dur, h.ws, .int .i64 h.many, h.es, .int .i64 h.i, .int .i64 h.vd, .int .i64 h.m1, .int .u32 h.m2, .int .u32 h.m3, h.inn, .bool h.ended, h.nx, h.bh]
structure Hr.One (h : Hr) : Prop where
 ws : h.ws.oneCell' = true
 es : h.es.oneCell' = true
 inn : h.inn.oneCell' = true
 nx : h.nx.oneCell' = true
 bh : h.bh.oneCell' = true
theorem Hr.One.all {h : Hr} (o : h.One) : ∀ v ∈ hL h, v.oneCell' = true := by
 intro v hv
 simp only [hL, List.mem_cons, List.not_mem_nil, or_false] at hv
 rcases hv with rfl | rfl | rfl | rfl | rfl | rfl | rfl | rfl | rfl | rfl | rfl | rfl | rfl | rfl | rfl | rfl | rfl | rfl | rfl | rfl | rfl
 all_goals first | rfl | exact o.ws | exact o.es | exact o.inn | exact o.nx | exact o.bh
section
variable {P : Program} {w W : World} {b : Nat} {cs l : List Value}
theorem Blk.range (h : Blk w b cs) : w.rangeAt b 0 cs := fun j v hv => by rw [Nat.zero_add]; exact h.2.2 j v hv
theorem Blk.there (h : Blk w b cs) : w.there b 0 cs.length := fun j hj => by
 rw [Nat.zero_add]
 exact ⟨by rw [h.2.2 j _ (List.getElem?_eq_getElem hj)]; rfl, h.2.1 j⟩
theorem setCells_grl (b : Nat) : ∀ (xs : List Value) (k : Nat) (w : World), GrL [b] w (w.setCells b k xs)
 | [], _, _ => GrL.refl
 | x :: xs, k, w => (GrL.refl.set (List.mem_singleton.2 rfl) x).trans (setCells_grl b xs (k + 1) _)
theorem setCells_blk (b : Nat) : ∀ (xs : List Value) (p q : List Value) (w : World), Blk w b (p ++ q) → q.length = xs.length → Blk (w.setCells b p.length xs) b (p ++ xs)
 | [], p, q, w, h, e => by cases q with | nil => exact h | cons _ _ => cases e
 | x :: xs, p, q, w, h, e => by
  cases q with
  | nil => cases e
  | cons y q =>
   have h1 := h.set p.length (by simp) x
   rw [show (p ++ y :: q).set p.length x = (p ++ [x]) ++ q by simp] at h1
   have h2 := setCells_blk b xs (p ++ [x]) q _ h1 (by simpa using e)
   simp only [List.length_append, List.length_cons, List.length_nil, List.append_assoc, List.cons_append, List.nil_append] at h2
   exact h2
theorem setCells_all (h : Blk w b l) (e : l.length = cs.length) : Blk (w.setCells b 0 cs) b cs := setCells_blk b cs [] l w h e
theorem ld_blk {ops : Array Oper} {rest : List Oper} {op : Oper} {a : Act} {Q : Exit → Act → World → Prop} (hgd : op.guard = none) (ty : TypeId) (x : Operand) (ho : op.op = .load ty x)
 (hx : a.eval x = .pointer (some ⟨b, 0, none⟩)) (d : TypeDesc) (hc : Blk w b cs)
 (hu : P.underlying ty = some d) (hd : d.isRow = true) (hi : (P.info? ty).map (·.size) = some cs.length)
 (h : wpList P ops Q rest (a.put op.dst (.agg cs.toArray)) w) : wpList P ops Q (op :: rest) a w :=
 wpList_load_mid hgd ty x ho b 0 hx cs d hc.range hu hd hi h
theorem st_blk {ops : Array Oper} {rest : List Oper} {op : Oper} {a : Act} {Q : Exit → Act → World → Prop} (hgd : op.guard = none) (ty : TypeId) (x y : Operand) (ho : op.op = .store ty x y)
 (hx : a.eval x = .pointer (some ⟨b, 0, none⟩)) (hy : a.eval y = .agg cs.toArray) (hb : Blk w b l) (e : l.length = cs.length)
 (hi : (P.info? ty).map (·.size) = some cs.length) (h1 : ∀ v ∈ cs, v.oneCell' = true)
 (h : ∀ W, Blk W b cs → GrL [b] w W → wpList P ops Q rest (a.put op.dst undef) W) : wpList P ops Q (op :: rest) a w :=
 wpList_store_mid hgd ty x y ho b 0 cs.toArray hx hy (by rw [List.size_toArray, ← e]; exact hb.there) (by rw [List.size_toArray]; exact hi) (all_oneCell_toArray h1)
  (h _ (by simpa using setCells_all hb e) (setCells_grl b _ 0 w))
theorem res3 {fn : Func} {tmps : Array Value} {k1 k2 k3 : Nat} {t1 t2 : TypeId} {b1 b2 : Nat} {c1 c2 : List Value} {v3 : Value} {d1 d2 : TypeDesc} (hr : fn.results = #[.cell k1 t1, .cell k2 t2, .tmp k3])
 (h1 : tmps[k1]?.getD undef = .pointer (some ⟨b1, 0, none⟩)) (h2 : tmps[k2]?.getD undef = .pointer (some ⟨b2, 0, none⟩)) (h3 : tmps[k3]?.getD undef = v3)
 (B1 : Blk w b1 c1) (B2 : Blk w b2 c2) (hu1 : P.underlying t1 = some d1) (hd1 : d1.isRow = true) (hi1 : (P.info? t1).map (·.size) = some c1.length)
 (hu2 : P.underlying t2 = some d2) (hd2 : d2.isRow = true) (hi2 : (P.info? t2).map (·.size) = some c2.length) :
 (results fn tmps).run P w = .ok (.tuple #[.agg c1.toArray, .agg c2.toArray, v3]) w := by
 have e1 := run_loadVar_mid w b1 0 t1 c1 d1 B1.range hu1 hd1 hi1
 have e2 := run_loadVar_mid w b2 0 t2 c2 d2 B2.range hu2 hd2 hi2
 subst h3
 simp only [results, hr]
 simp [Sem.run_bind, Sem.run_pure, h1, h2, asAddr, e1, e2]
end
theorem Tryz.hInfo : (Tryz.prog.info? 106).map (·.size) = some 21 := by kernel_rfl
theorem Tryz.aInfo : (Tryz.prog.info? 46).map (·.size) = some 8 := by kernel_rfl
theorem Tryz.gInfo : (Tryz.prog.info? 50).map (·.size) = some 4 := by kernel_rfl
theorem Tryz.wInfo : (Tryz.prog.info? 44).map (·.size) = some 3 := by kernel_rfl
theorem a8E_one' (a : A8) : ∀ v ∈ a8E a, Value.oneCell' v = true := by
 intro v hv
 simp only [a8E, List.mem_cons, List.not_mem_nil, or_false] at hv
 rcases hv with rfl | rfl | rfl | rfl | rfl | rfl | rfl | rfl <;> rfl
theorem run_storeVar_cell {P : Program} {w : World} {b k : Nat} {l : List Value} {v : Value} (ty : TypeId) (hb : Blk w b l) (hk : k < l.length) (hi : (P.info? ty).map (·.size) = some 1) (h1 : v.oneCell' = true) :
 (storeVar ty ⟨b, k, none⟩ v).run P w = .ok () (w.setCell ⟨b, k, none⟩ v) := by
 have hcl : v.cells = #[v] := by cases v <;> first | rfl | cases h1
 have := run_storeCells_cells (P := P) b k [v] 0 w (fun j hj => by
  have : j = 0 := by simpa using hj
  subst this
  show (w.cell? ⟨b, k, none⟩).isSome = true
  rw [hb.2.2 k _ (List.getElem?_eq_getElem hk)]; rfl) (fun j hj => hb.2.1 _) (fun u hu => by simp at hu; subst hu; exact h1)
 cases hq : P.info? ty with
 | none => simp [hq] at hi
 | some i =>
  have hs : i.size = 1 := by simpa [hq] using hi
  simp only [Nat.add_zero] at this
  simp [storeVar, sizeOf, typeInfo, hq, hcl, hs, this, World.setCells]
theorem st_fld {P : Program} {w : World} {b k : Nat} {l : List Value} {v : Value} {ops : Array Oper} {rest : List Oper} {op : Oper} {a : Act} {Q : Exit → Act → World → Prop} (hgd : op.guard = none) (ty : TypeId) (x y : Operand) (ho : op.op = .store ty x y)
 (hx : a.eval x = .pointer (some ⟨b, k, none⟩)) (hy : a.eval y = v) (hb : Blk w b l) (hk : k < l.length) (hi : (P.info? ty).map (·.size) = some 1) (h1 : v.oneCell' = true)
 (h : ∀ W, Blk W b (l.set k v) → GrL [b] w W → wpList P ops Q rest (a.put op.dst undef) W) : wpList P ops Q (op :: rest) a w := by
 refine wpList_plain hgd fun K hK => ?_
 unfold Oper.wp execOp
 simp only [ho, hx, hy, Instr.storeAt, Instr.sureAddr, Sem.run_bind, Sem.run_pure, Result.andThen_ok, run_storeVar_cell ty hb hk hi h1]
 exact hK _ _ (h _ (hb.set k hk v) (GrL.refl.set (List.mem_singleton.2 rfl) v))
theorem ld_run {P : Program} {w : World} {b : Nat} {cs : List Value} {op : Oper} {a : Act} (ty : TypeId) (x : Operand) (ho : op.op = .load ty x)
 (hx : a.eval x = .pointer (some ⟨b, 0, none⟩)) (d : TypeDesc) (hc : Blk w b cs) (hu : P.underlying ty = some d) (hd : d.isRow = true) (hi : (P.info? ty).map (·.size) = some cs.length) :
 (execOp a.eval op).run P w = .ok (.value (.agg cs.toArray)) w := by
 unfold execOp
 simp only [ho, hx, Instr.loadAt, Instr.sureAddr, Sem.run_bind, Sem.run_pure, Result.andThen_ok, run_loadVar_mid w b 0 ty cs d hc.range hu hd hi]
theorem st_op {P : Program} {w : World} {b : Nat} {cs l : List Value} {op : Oper} {a : Act} {K : Act → World → Prop} {Q : Exit → Act → World → Prop} (ty : TypeId) (x y : Operand) (ho : op.op = .store ty x y)
 (hx : a.eval x = .pointer (some ⟨b, 0, none⟩)) (hy : a.eval y = .agg cs.toArray) (hb : Blk w b l) (e : l.length = cs.length)
 (hi : (P.info? ty).map (·.size) = some cs.length) (h1 : ∀ v ∈ cs, v.oneCell' = true)
 (h : ∀ W, Blk W b cs → GrL [b] w W → K (a.put op.dst undef) W) : op.wp P a w K Q :=
 wp_store_mid ty x y ho b 0 cs.toArray hx hy (by rw [List.size_toArray, ← e]; exact hb.there) (by rw [List.size_toArray]; exact hi) (all_oneCell_toArray h1)
  (h _ (by simpa using setCells_all hb e) (setCells_grl b _ 0 w))
def phV : Nat → Value
 | 0 => .func (.func 29) #[] #[]
 | 1 => .func (.func 62) #[] #[]
 | 2 => .func (.func 89) #[] #[]
 | 3 => .func (.func 119) #[] #[]
 | 4 => .func (.func 117) #[] #[]
 | 5 => .func (.func 152) #[] #[]
 | 6 => .func (.func 168) #[] #[]
 | 7 => .func (.func 176) #[] #[]
 | 8 => .func (.func 179) #[] #[]
 | 9 => .func (.func 174) #[] #[]
 | 10 => .func (.func 166) #[] #[]
 | 11 => .func (.func 175) #[] #[]
 | 12 => .func (.func 146) #[] #[]
 | 13 => .func (.func 163) #[] #[]
 | 14 => .func (.func 147) #[] #[]
 | 15 => .func (.func 172) #[] #[]
 | 16 => .func (.func 178) #[] #[]
 | 17 => .func (.func 173) #[] #[]
 | _ => .nilFunc
def bhV (n : Nat) : Value := if n = 0 then .nilFunc else phV n
theorem phV_one (n : Nat) : (phV n).oneCell' = true := by unfold phV; split <;> rfl
theorem bhV_one (n : Nat) : (bhV n).oneCell' = true := by unfold bhV; split; rfl; exact phV_one n
structure HX where
 t : Int
 c : Int
 b : Int
 dur : Bool
 ws : Value
 es : Value
 inn : Value
structure HX.One (X : HX) : Prop where
 ws : X.ws.oneCell' = true
 es : X.es.oneCell' = true
 inn : X.inn.oneCell' = true
abbrev hR (X : HX) (d : Hd) : Hr := ⟨X.t, X.c, X.b, d.ref, d.at_, d.who, d.seq, d.most, X.dur, X.ws, d.many, X.es, d.i, d.vd, d.met.1, d.met.2.1, d.met.2.2, X.inn, d.ended, phV d.nx, bhV d.bh⟩
theorem hR_one {X : HX} (o : X.One) (d : Hd) : (hR X d).One := ⟨o.ws, o.es, o.inn, phV_one _, bhV_one _⟩
set_option maxRecDepth 100000 in
set_option maxHeartbeats 1000000 in
theorem hp_ask {X : HX} (ho : X.One) (d : Hd) (a : A8) (p : Nat) (w : World) :
 Calls Tryz.prog 86 #[.agg (hL (hR X d)).toArray, .agg (a8E a).toArray, phV p] w fun e w' => e = .returned (.tuple #[.agg (hL (hR X (hpAsk d a p).1)).toArray, .agg (a8E (hpAsk d a p).2.1).toArray, .bool (hpAsk d a p).2.2]) ∧ Ext w w' := by
 have HO := hid ho
 clear ho
 go_enter Tryz.func86, Tryz.ntmps86
 go_upto_region 1 with fail
 generalize hV_ : World.alloc _ _ = V
 have HE_V := hid (show Ext w V by rw [← hV_]; exact exP)
 have HB_bx := hid (show Blk V (w.heap.size) (hL (hR X d)) by rw [← hV_]; exact bkP)
 have HB_bi := hid (show Blk V (w.heap.size + 1) (a8E a) by rw [← hV_]; exact bkP)
 have HB_br := hid (show Blk V (w.heap.size + 1 + 1) [.int .i64 0, .int .i64 0, .int .i64 0, .int .u32 0, .int .i64 0, .int .i64 0, .int .i64 0, .int .i64 0, .bool false, .slice none 0 0, .int .i64 0, .slice none 0 0, .int .i64 0, .int .i64 0, .int .i64 0, .int .u32 0, .int .u32 0, .nilIface, .bool false, .nilFunc, .nilFunc] by rw [← hV_]; exact bkP)
 have HB_ba := hid (show Blk V (w.heap.size + 1 + 1 + 1) [.int .i64 0, .int .i64 0, .int .i64 0, .int .u32 0, .int .u32 0, .int .i64 0, .int .u32 0, .int .u32 0] by rw [← hV_]; exact bkP)
 clear hV_
 obtain ⟨ba, hg_ba⟩ : ∃ g, g = w.heap.size + 1 + 1 + 1 := ⟨_, rfl⟩
 simp only [← hg_ba] at HB_ba ⊢
 obtain ⟨br, hg_br⟩ : ∃ g, g = w.heap.size + 1 + 1 := ⟨_, rfl⟩
 simp only [← hg_br] at HB_br ⊢
 obtain ⟨bi, hg_bi⟩ : ∃ g, g = w.heap.size + 1 := ⟨_, rfl⟩
 simp only [← hg_bi] at HB_bi ⊢
 obtain ⟨bx, hg_bx⟩ : ∃ g, g = w.heap.size := ⟨_, rfl⟩
 simp only [← hg_bx] at HB_bx ⊢
 have HN_V := hid (show bx = w.heap.size ∧ bi = w.heap.size + 1 ∧ br = w.heap.size + 1 + 1 ∧ ba = w.heap.size + 1 + 1 + 1 ∧ ba < V.heap.size from ⟨hg_bx, hg_bi, hg_br, hg_ba, HB_ba.out.1⟩)
 clear hg_bx hg_bi hg_br hg_ba
 have x_nx : V.cell? ⟨bx, 19, none⟩ = some (phV d.nx) := HB_bx.out.2.2 19 _ rfl
 have x_g := HB_bx.out.1
 go_upto_region 2 with (refine st_fld rfl _ _ _ rfl rfl rfl HB_bx.out (of_decide_eq_true rfl) (by kernel_rfl) (phV_one p) ?_; intro W hb_ hg_)
 clear x_nx x_g
 have HG_W := hid hg_
 have HB_bx := hid (show Blk W bx (hL (hR X { d with nx := p })) from hb_)
 clear hb_ hg_
 have HB_bi := hid (HB_bi.out.grl HG_W.out (by have h1 := HN_V.out; simp; omega))
 have HB_br := hid (HB_br.out.grl HG_W.out (by have h1 := HN_V.out; simp; omega))
 have HB_ba := hid (HB_ba.out.grl HG_W.out (by have h1 := HN_V.out; simp; omega))
 have HEW := hid (HE_V.out.grl HG_W.out (by have h1 := HN_V.out; simp; omega))
 refine wp_region_held_drew (S := fun w' => Blk w' bx (hL (hR X { d with nx := p })) ∧ Blk w' bi (a8E a)) (by kernel_rfl) ⟨HB_bx.out, HB_bi.out⟩ (fun hHeld => ?_)
 refine take_met 0 (oi := ⟨_, _, _, _, _, _⟩) (v := .agg (hL (hR X { d with nx := p })).toArray) (by kernel_rfl) rfl (by rfl) (fun _ _ _ h => h) hHeld (fun w hS => ld_run _ _ rfl rfl _ hS.1 Tryz.underlying106 rfl Tryz.hInfo) ?_
 (try simp only [Act.put, pA, pB, pC])
 refine take_met 1 (oi := ⟨_, _, _, _, _, _⟩) (v := .agg (a8E a).toArray) (by kernel_rfl) rfl (by rfl) (fun _ _ _ h => h) hHeld (fun w hS => ld_run _ _ rfl rfl _ hS.2 Tryz.underlying46 rfl Tryz.aInfo) ?_
 (try simp only [Act.put, pA, pB, pC])
 refine take_only 2 (oi := ⟨_, _, _, _, _, _⟩) (by kernel_rfl) rfl (fun K hK => ?_)
 rw [if_pos (by rfl)]
 refine st_op _ _ _ rfl rfl rfl HB_br.out rfl Tryz.hInfo (Hr.One.all (hR_one HO.out _)) (fun W1 hb1 hg1 => ?_)
 refine hK.out _ _ ⟨hHeld.1.grl hg1 (by have h1 := HN_V.out; simp; omega), hHeld.2.grl hg1 (by have h1 := HN_V.out; simp; omega)⟩ (fun hHeld1 => ?_)
 clear hK K
 (try simp only [Act.put, pA, pB, pC])
 refine take_only 3 (oi := ⟨_, _, _, _, _, _⟩) (by kernel_rfl) rfl (fun K hK => ?_)
 rw [if_pos (by rfl)]
 refine st_op _ _ _ rfl rfl rfl (HB_ba.out.grl hg1 (by have h1 := HN_V.out; simp; omega)) rfl Tryz.aInfo (a8E_one' _) (fun W2 hb2 hg2 => ?_)
 refine hK.out _ _ ⟨hHeld1.1.grl hg2 (by have h1 := HN_V.out; simp; omega), hHeld1.2.grl hg2 (by have h1 := HN_V.out; simp; omega)⟩ (fun hHeld2 => ?_)
 clear hK K
 (try simp only [Act.put, pA, pB, pC])
 refine take_met 4 (oi := ⟨_, _, _, _, _, _⟩) (v := .bool false) (by kernel_rfl) rfl (by rfl) (fun _ _ _ h => h) hHeld2 (fun w hS => by rfl) ?_
 (try simp only [Act.put, pA, pB, pC])
 refine wpAnyH_done (by kernel_rfl) ?_ _
 (repeat (first | go_values | go_skip | go_guarded | go_step | go_upon | (simp only [Int.not_lt, Int.not_le] at *; go_simp) | (go_ite <;> go_prune <;> (try go_simp))))
 exact bodyPost_ret (res3 Tryz.results86 rfl rfl rfl (hb1.grl hg2 (by have h1 := HN_V.out; simp; omega)) hb2 Tryz.underlying106 rfl Tryz.hInfo Tryz.underlying46 rfl Tryz.aInfo) rfl ⟨rfl, (HEW.out.grl hg1 (by have h1 := HN_V.out; simp; omega)).grl hg2 (by have h1 := HN_V.out; simp; omega)⟩
set_option maxRecDepth 100000 in
set_option maxHeartbeats 1000000 in
theorem hp_look {X : HX} (ho : X.One) (d : Hd) (p : Nat) (w : World) :
 Calls Tryz.prog 61 #[.agg (hL (hR X d)).toArray, phV p] w fun e w' => e = .returned (.tuple #[.agg (hL (hR X (hpLook d p).1)).toArray, .agg (a8E (hpLook d p).2.1).toArray, .bool (hpLook d p).2.2]) ∧ Ext w w' := by
 have HO := hid ho
 clear ho
 go_enter Tryz.func61, Tryz.ntmps61
 go_upto_region 1 with fail
 generalize hV_ : World.alloc _ _ = V
 have HE_V := hid (show Ext w V by rw [← hV_]; exact exP)
 have HB_bx := hid (show Blk V (w.heap.size) (hL (hR X d)) by rw [← hV_]; exact bkP)
 have HB_br := hid (show Blk V (w.heap.size + 1) [.int .i64 0, .int .i64 0, .int .i64 0, .int .u32 0, .int .i64 0, .int .i64 0, .int .i64 0, .int .i64 0, .bool false, .slice none 0 0, .int .i64 0, .slice none 0 0, .int .i64 0, .int .i64 0, .int .i64 0, .int .u32 0, .int .u32 0, .nilIface, .bool false, .nilFunc, .nilFunc] by rw [← hV_]; exact bkP)
 have HB_ba := hid (show Blk V (w.heap.size + 1 + 1) [.int .i64 0, .int .i64 0, .int .i64 0, .int .u32 0, .int .u32 0, .int .i64 0, .int .u32 0, .int .u32 0] by rw [← hV_]; exact bkP)
 clear hV_
 obtain ⟨ba, hg_ba⟩ : ∃ g, g = w.heap.size + 1 + 1 := ⟨_, rfl⟩
 simp only [← hg_ba] at HB_ba ⊢
 obtain ⟨br, hg_br⟩ : ∃ g, g = w.heap.size + 1 := ⟨_, rfl⟩
 simp only [← hg_br] at HB_br ⊢
 obtain ⟨bx, hg_bx⟩ : ∃ g, g = w.heap.size := ⟨_, rfl⟩
 simp only [← hg_bx] at HB_bx ⊢
 have HN_V := hid (show bx = w.heap.size ∧ br = w.heap.size + 1 ∧ ba = w.heap.size + 1 + 1 ∧ ba < V.heap.size from ⟨hg_bx, hg_br, hg_ba, HB_ba.out.1⟩)
 clear hg_bx hg_br hg_ba
 have x_at : V.cell? ⟨bx, 4, none⟩ = some (.int .i64 d.at_) := HB_bx.out.2.2 4 _ rfl
 have x_g := HB_bx.out.1
 go_wp2_with (first | (refine ld_blk rfl 106 _ rfl rfl _ HB_bx.out Tryz.underlying106 rfl Tryz.hInfo ?_))
 clear x_at x_g
 refine (hp_ask HO.out d (lookA d.at_) p V).mono ?_
 rintro e w1 ⟨rfl, he⟩
 have HE1 := hid (HE_V.out.trans he)
 have HBr := hid (HB_br.out.of he)
 have HBa := hid (HB_ba.out.of he)
 clear he
 go_wp2_with (first | (refine st_blk rfl 106 _ _ rfl rfl rfl HBr.out rfl Tryz.hInfo (Hr.One.all (hR_one HO.out _)) ?_; intro W1 hb1 hg1) | (refine st_blk rfl 46 _ _ rfl rfl rfl (HBa.out.grl hg1 (by have h1 := HN_V.out; simp; omega)) rfl Tryz.aInfo (a8E_one' _) ?_; intro W2 hb2 hg2))
 exact bodyPost_ret (res3 Tryz.results61 rfl rfl rfl (hb1.grl hg2 (by have h1 := HN_V.out; simp; omega)) hb2 Tryz.underlying106 rfl Tryz.hInfo Tryz.underlying46 rfl Tryz.aInfo) rfl ⟨rfl, (HE1.out.grl hg1 (by have h1 := HN_V.out; simp; omega)).grl hg2 (by have h1 := HN_V.out; simp; omega)⟩
abbrev zH : List Value := [.int .i64 0, .int .i64 0, .int .i64 0, .int .u32 0, .int .i64 0, .int .i64 0, .int .i64 0, .int .i64 0, .bool false, .slice none 0 0, .int .i64 0, .slice none 0 0, .int .i64 0, .int .i64 0, .int .i64 0, .int .u32 0, .int .u32 0, .nilIface, .bool false, .nilFunc, .nilFunc]
end Go.Proofs.YtiacdohaiidehaaGreatDoor
