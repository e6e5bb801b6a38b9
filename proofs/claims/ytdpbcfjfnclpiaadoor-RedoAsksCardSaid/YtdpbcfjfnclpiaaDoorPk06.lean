/- General laws, of no program in particular: the moves of a walk over a region that draws its order, where the calls wait for one another and all else only reads what a condition on the world gives; operations whose guard is not met are passed over. No condition. Walks of package desc: Status, Pack, Field, and what check needs of slices.IsSortedFunc. Walks of package desc: check, Field, Words. Slices of bools. -/
import Derived.Test.YtdpbcfjfnclpiaaDoorPk00
import Derived.Deep.RegionHeld3
import Derived.Test.YtdpbcfjfnclpiaaDoorPk04
import Derived.Test.YtdpbcfjfnclpiaaDoorPk05
import Derived.Test.YtdpbcfjfnclpiaaDoorPk03
namespace Go.Proofs.YtdpbcfjfnclpiaaDoor
set_option linter.unusedSimpArgs false
set_option linter.unusedVariables false
open Go.RowKit
def mayTake (ops : Array Oper) (listed : Array Bool) (i : Nat) : Bool := (Region.ready .any ops listed).contains i && Region.noSelect ops && Region.free .any ops listed i
section
variable {P : Program} {ops : Array Oper} {Q : Exit → Act → World → Prop} {S : World → Prop}
theorem take_met (i : Nat) {oi : Oper} {v : Value} {fuel : Nat} {listed : Array Bool} {a : Act} {w : World} (hm : mayTake ops listed i = true) (hi : ops[i]? = some oi)
 (hw : Region.wanted oi (yielded ops a.tmps) = true) (hQ : ∀ c a w, Q (.panic c) (a.put oi.dst v) w → Q (.panic c) a w) (hS : S w) (hy : ∀ w, S w → (execOp a.eval oi).run P w = .ok (.value v) w)
 (h : wpAnyH P .any ops Q S fuel (listed.setIfInBounds i true) (a.put oi.dst v) w) : wpAnyH P .any ops Q S (fuel + 1) listed a w := by
 simp only [mayTake, Bool.and_eq_true] at hm
 exact wpAnyH_take hi hm.1.2 hm.2 hm.1.1 hQ (.inl ⟨hw, hy⟩) hS h
theorem take_unmet (i : Nat) {oi : Oper} {fuel : Nat} {listed : Array Bool} {a : Act} {w : World} (hm : mayTake ops listed i = true) (hi : ops[i]? = some oi)
 (hw : Region.wanted oi (yielded ops a.tmps) = false) (hQ : ∀ c a w, Q (.panic c) (a.put oi.dst undef) w → Q (.panic c) a w) (hS : S w)
 (h : wpAnyH P .any ops Q S fuel (listed.setIfInBounds i true) (a.put oi.dst undef) w) : wpAnyH P .any ops Q S (fuel + 1) listed a w := by
 simp only [mayTake, Bool.and_eq_true] at hm
 exact wpAnyH_take hi hm.1.2 hm.2 hm.1.1 hQ (.inr ⟨hw, rfl⟩) hS h
theorem take_only (i : Nat) {oi : Oper} {fuel : Nat} {listed : Array Bool} {a : Act} {w : World} (hr : Region.ready .any ops listed = [i]) (hi : ops[i]? = some oi)
 (h : ∀ K' : Act → World → Prop, Shut (∀ a w, S w → (S w → wpAnyH P .any ops Q S fuel (listed.setIfInBounds i true) a w) → K' a w) → if Region.wanted oi (yielded ops a.tmps) = true then Oper.wp P oi a w K' Q else K' (a.put oi.dst undef) w) :
 wpAnyH P .any ops Q S (fuel + 1) listed a w :=
 wpAnyH_ready hr (by simp) (AllReadyH.cons hi h AllReadyH.nil)
end
theorem own_append_op {α : Type} {enc : α → List Value} {base : Nat} {e : TypeId} {size : Nat} {v : Value} {l : List α} {w : World} {P : Program} {t : TypeId} {i : TypeInfo} {z : Value} {bytes : Nat} (ht : P.underlying t = some (.slice e)) (hi : P.info? e = some i) (hz : i.zero = some z)
 (hsize : i.size = size) (hby : i.bytes = bytes) (hzs : z.cells.size = size) (hsz : 0 < size) (henc : ∀ x, (enc x).length = size) (hone : ∀ x, ∀ u ∈ enc x, u.oneCell' = true)
 {o : Oper} {a : Act} {K : Act → World → Prop} {Q : Exit → Act → World → Prop}
 (s x : Operand) (ho : o.op = .call { callee := .builtin .append, args := #[s, x], argTypes := #[t, t] })
 (W : World) (hW : Ext W w) (hWb : W.heap.size ≤ base) (hbw : base ≤ w.heap.size) (hs : a.eval s = v) (hown : Own w base e size enc v l)
 (ad : Addr) (m c : Nat) (hx : a.eval x = .slice (some ad) m c) (news : List α) (hm : news.length = m)
 (hnews : ∀ (j : Nat) (u : Value), (news.flatMap enc)[j]? = some u → w.cell? (ad.add j) = some u)
 (hlen : l.length + m ≤ maxLen) (hbytes : (l.length + m) * bytes ≤ 140737488355328)
 (h : ∀ v' r, Own (ext W r) base e size enc v' (l ++ news) → K (a.put o.dst v') (Go.Proofs.YtdpbcfjfnclpiaaDoor.ext W r)) : Oper.wp P o a w K Q := by
 have hl : (news.flatMap enc).length = m * size := by
  subst hm
  clear hnews hx hlen hbytes h
  induction news with
  | nil => simp
  | cons y ys ih => simp only [List.flatMap_cons, List.length_append, henc, List.length_cons, Nat.add_mul]; rw [ih]; omega
 refine wp_append_own w s x t ho base e i z size bytes ht hi hz hsize hby hzs hsz v l.length (l.flatMap enc) hs hown ad m c (news.flatMap enc) hx hl hnews
  (fun u hu => by obtain ⟨y, _, hy⟩ := List.mem_flatMap.1 hu; exact hone y u hy) hlen hbytes hbw ?_
 intro v' w' hown' hg _
 have hE : Ext W w' := Ext.of_below ((hW.below).grown hg hW.size (fun k hk => by
  have := (World.ownsRow.lt hown k hk).1; omega))
 obtain ⟨r, rfl⟩ := hE
 refine h v' r ?_
 have e1 : (l ++ news).length = l.length + m := by simp [hm]
 have e2 : (l ++ news).flatMap enc = l.flatMap enc ++ news.flatMap enc := by simp
 unfold Own
 rw [e1, e2]
 exact hown'
end Go.Proofs.YtdpbcfjfnclpiaaDoor
namespace Go.Proofs.YtdpbcfjfnclpiaaDoor
set_option linter.unusedSimpArgs false
set_option linter.unusedVariables false
open Go.RowKit
set_option maxHeartbeats 400000 in
theorem status_any (st seq : Int) (h0 : 0 ≤ seq) (h1 : seq ≤ 4294967295) (w : World) :
 Calls Tryd.prog 18 #[.int .i64 st, .int .i64 seq] w fun e w' => e = .returned (.agg #[.int .i64 st, .int .u32 seq, .int .u32 0]) ∧ ∃ r, w' = ext w r := by
 have hq : IntKind.u32.wrap seq = seq := wraps_u32w seq h0 (by omega)
 go_enter Tryd.func18, Tryd.ntmps18
 (repeat (first | go_values | go_skip | go_guarded | go_step | go_upon | (simp only [Int.not_lt, Int.not_le] at *; go_simp) | (go_ite <;> go_prune <;> (try go_simp))))
 exact bodyPost_ret (v := .agg #[.int .i64 st, .int .u32 seq, .int .u32 0]) (by simp [results, Tryd.results18, go_sem]) rfl ⟨rfl, by (show Ext _ _; repeat first | (with_reducible first | (refine xH ?_; assumption) | exact xR _ | refine xX ?_ _ | refine xA ?_ _) | refine xD ?_ | refine xN ?_ _ | refine xS ?_ (by (try dsimp only); first | omega | (simp; done) | (simp; omega)) _)⟩
def packW (e : En) : List Wd := [(e.loc, (if e.wr = true then 1 else 0), 0), (e.val, e.ver, 0), (e.new, 0, 0)]
set_option maxHeartbeats 1000000 in
theorem pack_any (loc val ver ref new : Int) (wr : Bool) (w : World) :
 Calls Tryd.prog 44 #[.agg #[.int .i64 loc, .int .i64 val, .int .u32 ver, .int .u32 ref, .int .i64 new, .bool wr]] w fun e w' =>
  e = .returned (.agg #[.int .i64 loc, .int .u32 (if wr = true then 1 else 0), .int .u32 0, .int .i64 val, .int .u32 ver, .int .u32 0, .int .i64 new, .int .u32 0, .int .u32 0]) ∧ ∃ r, w' = ext w r := by
 cases wr
 ·go_enter Tryd.func44, Tryd.ntmps44
  (repeat (first | go_values | go_skip | go_guarded | go_step | go_upon | (simp only [Int.not_lt, Int.not_le] at *; go_simp) | (go_ite <;> go_prune <;> (try go_simp))))
  exact bodyPost_ret (v := .agg #[.int .i64 loc, .int .u32 0, .int .u32 0, .int .i64 val, .int .u32 ver, .int .u32 0, .int .i64 new, .int .u32 0, .int .u32 0]) (by simp [results, Tryd.results44, go_sem]) rfl ⟨rfl, by (show Ext _ _; repeat first | (with_reducible first | (refine xH ?_; assumption) | exact xR _ | refine xX ?_ _ | refine xA ?_ _) | refine xD ?_ | refine xN ?_ _ | refine xS ?_ (by (try dsimp only); first | omega | (simp; done) | (simp; omega)) _)⟩
 ·go_enter Tryd.func44, Tryd.ntmps44
  (repeat (first | go_values | go_skip | go_guarded | go_step | go_upon | (simp only [Int.not_lt, Int.not_le] at *; go_simp) | (go_ite <;> go_prune <;> (try go_simp))))
  exact bodyPost_ret (v := .agg #[.int .i64 loc, .int .u32 1, .int .u32 0, .int .i64 val, .int .u32 ver, .int .u32 0, .int .i64 new, .int .u32 0, .int .u32 0]) (by simp [results, Tryd.results44, go_sem]) rfl ⟨rfl, by (show Ext _ _; repeat first | (with_reducible first | (refine xH ?_; assumption) | exact xR _ | refine xX ?_ _ | refine xA ?_ _) | refine xD ?_ | refine xN ?_ _ | refine xS ?_ (by (try dsimp only); first | omega | (simp; done) | (simp; omega)) _)⟩
theorem cmp_any (a b : En) (ha : 0 ≤ a.loc ∧ a.loc ≤ 4095) (hb : 0 ≤ b.loc ∧ b.loc ≤ 4095) (w : World) :
 Calls Tryd.prog 60 #[.agg #[.int .i64 a.loc, .int .i64 a.val, .int .u32 a.ver, .int .u32 a.ref, .int .i64 a.new, .bool a.wr], .agg #[.int .i64 b.loc, .int .i64 b.val, .int .u32 b.ver, .int .u32 b.ref, .int .i64 b.new, .bool b.wr]] w
  fun y w' => y = .returned (.int .i64 (a.loc - b.loc)) ∧ ∃ r, w' = ext w r := by
 obtain ⟨h0, h1⟩ := ha
 obtain ⟨h2, h3⟩ := hb
 go_enter Tryd.func60, Tryd.ntmps60
 go_wp2_with fail
 go_ret
 exact ⟨rfl, by (show Ext _ _; repeat first | (with_reducible first | (refine xH ?_; assumption) | exact xR _ | refine xX ?_ _ | refine xA ?_ _) | refine xD ?_ | refine xN ?_ _ | exact xR _)⟩
def sortTo (es : List En) : Nat → Bool
 | 0 => true
 | k + 1 => (match es[k + 1]?, es[k]? with | some a, some b => decide (b.loc ≤ a.loc) | _, _ => true) && sortTo es k
def sortB (es : List En) : Bool := sortTo es (es.length - 1)
theorem sortTo_at {es : List En} {k : Nat} {a b : En} (ha : es[k + 1]? = some a) (hb : es[k]? = some b) : sortTo es (k + 1) = (decide (b.loc ≤ a.loc) && sortTo es k) := by
 simp only [sortTo, ha, hb]
set_option maxRecDepth 100000 in
set_option maxHeartbeats 1000000 in
theorem sorted_any (es : List En) (v : Value) (hok : ∀ e ∈ es, 0 ≤ e.loc ∧ e.loc ≤ 4095) (h32 : es.length ≤ 1000) (w : World) (hv : Es w v es) :
 Calls Tryd.prog 59 #[v, .func (.func 60) #[] #[]] w fun y w' => y = .returned (.bool (sortB es)) ∧ ∃ r, w' = ext w r := by
 have HV := hid hv
 have HO := hid hok
 obtain ⟨a, c, rfl, ⟨hm, hlc⟩, _⟩ := hv
 clear hok
 by_cases h0 : es.length = 0
 ·have HE := hid (show sortB es = true by unfold sortB; rw [h0]; rfl)
  obtain ⟨n, hn⟩ : ∃ n, n = es.length := ⟨_, rfl⟩
  rw [← hn] at h0 ⊢
  subst h0
  clear hn
  go_enter Tryd.func59, Tryd.ntmps59
  go_wp2_with fail
  go_loopw [5] (fun i wr => i = .int .i64 (-1) ∧ ∃ r, wr = ext w r) (fun _ _ => 0)
  case atStart => exact ⟨rfl, by (show Ext _ _; repeat first | (with_reducible first | (refine xH ?_; assumption) | exact xR _ | refine xX ?_ _ | refine xA ?_ _) | refine xD ?_ | refine xN ?_ _ | exact xR _)⟩
  case round =>
   obtain ⟨rfl, r, rfl⟩ := hrel
   go_wp2_with fail
   go_ret
   exact ⟨ret_bool HE.out.symm, by (show Ext _ _; repeat first | (with_reducible first | (refine xH ?_; assumption) | exact xR _ | refine xX ?_ _ | refine xA ?_ _) | refine xD ?_ | refine xN ?_ _ | exact xR _)⟩
 ·obtain ⟨n, hn⟩ : ∃ n, es.length = n + 1 := ⟨es.length - 1, by omega⟩
  have HN := hid hn
  have hnb : n ≤ 1000 := by omega
  rw [hn] at HV ⊢
  have HS := hid (show sortB es = sortTo es n by unfold sortB; rw [hn]; rfl)
  clear hn h0 hm hlc
  go_enter Tryd.func59, Tryd.ntmps59
  go_wp2_with fail
  go_loopw [5] (fun i wr => ∃ j : Nat, j ≤ n ∧ i = .int .i64 j ∧ Hid (sortB es = sortTo es j) ∧ ∃ r, wr = ext w r) (fun i _ => (intOf i).toNat)
  case atStart => exact ⟨n, Nat.le_refl _, by go_num, HS, by (show Ext _ _; repeat first | (with_reducible first | (refine xH ?_; assumption) | exact xR _ | refine xX ?_ _ | refine xA ?_ _) | refine xD ?_ | refine xN ?_ _ | exact xR _)⟩
  case round =>
   clear HS
   obtain ⟨j, hj, rfl, HS, r, rfl⟩ := hrel
   cases j with
   | zero =>
    have HT := hid (show sortB es = true from HS.out)
    go_wp2_with fail
    go_ret
    exact ⟨ret_bool HT.out.symm, by (show Ext _ _; repeat first | (with_reducible first | (refine xH ?_; assumption) | exact xR _ | refine xX ?_ _ | refine xA ?_ _) | refine xD ?_ | refine xN ?_ _ | exact xR _)⟩
   | succ k =>
    have hk1 : k + 1 < es.length := by have := HN.out; omega
    have hk0 : k < es.length := by omega
    obtain ⟨hn1, b, o, hab, hbl, hcs⟩ := Sl.at HV.out (List.getElem?_eq_getElem hk1)
    obtain ⟨hn2, b', o', hab', _, hcs'⟩ := Sl.at HV.out (List.getElem?_eq_getElem hk0)
    have HX := hid (List.getElem?_eq_getElem hk1)
    have HY := hid (List.getElem?_eq_getElem hk0)
    have hx := HO.out _ (List.getElem_mem hk1)
    have hy := HO.out _ (List.getElem_mem hk0)
    generalize es[k + 1] = x at hcs HX hx
    generalize es[k] = y at hcs' HY hy
    have HA := hid (sortTo_at HX.out HY.out)
    subst hab
    cases hab'
    obtain ⟨x0, x1, x2, x3, x4, x5⟩ := x
    obtain ⟨y0, y1, y2, y3, y4, y5⟩ := y
    have k0 := hcs 0 (by omega)
    have k1 := hcs 1 (by omega)
    have k2 := hcs 2 (by omega)
    have k3 := hcs 3 (by omega)
    have k4 := hcs 4 (by omega)
    have k5 := hcs 5 (by omega)
    have q0 := hcs' 0 (by omega)
    have q1 := hcs' 1 (by omega)
    have q2 := hcs' 2 (by omega)
    have q3 := hcs' 3 (by omega)
    have q4 := hcs' 4 (by omega)
    have q5 := hcs' 5 (by omega)
    simp [enE] at k0 k1 k2 k3 k4 k5 q0 q1 q2 q3 q4 q5
    clear hcs hcs' hn1 hn2
    have hi0 : (0 : Int) ≤ (k : Int) := by omega
    have hi1 : (k : Int) < (n : Int) + 1 := by omega
    have hi2 : (0 : Int) ≤ (k : Int) + 1 := by omega
    have hi3 : (k : Int) + 1 < (n : Int) + 1 := by omega
    have HA2 := hid (show sortB es = (decide (y0 ≤ x0) && sortTo es k) by rw [HS.out, HA.out])
    clear hk0 hk1 HS HA
    have hx' := hid hx
    have hy' := hid hy
    dsimp only at hx hy
    obtain ⟨hx0, hx1⟩ := hx
    obtain ⟨hy0, hy1⟩ := hy
    have hw1 : IntKind.i64.wrap ((k : Int) + 1 - 1) = (k : Int) := by rw [show (k : Int) + 1 - 1 = k by omega]; exact IntWalk.i64_in _ (by omega)
    have hw2 : ((k : Int) + 1).toNat = k + 1 := by omega
    by_cases hlt : x0 - y0 < 0
    ·have HN := hid (show sortB es = false by rw [HA2.out, decide_eq_false (by omega)]; rfl)
     clear HA2
     go_wp2_with fail
     refine region_ext (by kernel_rfl) (by kernel_rfl) ?_
     repeat (go_big_quiet_step ((go_at_call 60; exact quiet_ext (cmp_any ⟨x0, x1, x2, x3, x4, x5⟩ ⟨y0, y1, y2, y3, y4, y5⟩ hx'.out hy'.out _))))
     refine wpQuiet_nil ?_
     rintro _ ⟨r4, rfl⟩
     go_wp2_with fail
     go_ret
     exact ⟨ret_bool HN.out.symm, by (show Ext _ _; repeat first | (with_reducible first | (refine xH ?_; assumption) | exact xR _ | refine xX ?_ _ | refine xA ?_ _) | refine xD ?_ | refine xN ?_ _ | exact xR _)⟩
    ·have HN := hid (show sortB es = sortTo es k by rw [HA2.out, decide_eq_true (by omega)]; rfl)
     clear HA2
     go_wp2_with fail
     refine region_ext (by kernel_rfl) (by kernel_rfl) ?_
     repeat (go_big_quiet_step ((go_at_call 60; exact quiet_ext (cmp_any ⟨x0, x1, x2, x3, x4, x5⟩ ⟨y0, y1, y2, y3, y4, y5⟩ hx'.out hy'.out _))))
     refine wpQuiet_nil ?_
     rintro _ ⟨r4, rfl⟩
     clear hw1 hw2
     go_wp2_with fail
     go_roundw
     case rel => exact ⟨k, by omega, rfl, HN, by (show Ext _ _; repeat first | (with_reducible first | (refine xH ?_; assumption) | exact xR _ | refine xX ?_ _ | refine xA ?_ _) | refine xD ?_ | refine xN ?_ _ | exact xR _)⟩
     case measure => simp [intOf]
end Go.Proofs.YtdpbcfjfnclpiaaDoor
namespace Go.Proofs.YtdpbcfjfnclpiaaDoor
set_option linter.unusedSimpArgs false
set_option linter.unusedVariables false
open Go.RowKit
theorem checkGo_wrong : ∀ (l pre : List En), checkGo pre l = 0 → ∀ x ∈ l, wrongN x = 0
 | [], _, _ => by simp
 | x :: r, pre, h => by
  unfold checkGo at h
  split at h
  ·rename_i hw; exact absurd h hw
  ·rename_i hw
   split at h
   ·cases h
   ·intro y hy
    rcases List.mem_cons.1 hy with rfl | hy
    ·simpa using hw
    ·exact checkGo_wrong r (pre ++ [x]) h y hy
theorem check_loc {l : List En} (h : checkE l = 0) : (∀ x ∈ l, 0 ≤ x.loc ∧ x.loc ≤ 4095) ∧ 1 ≤ l.length ∧ l.length ≤ 32 := by
 unfold checkE at h
 split at h
 ·cases h
 ·split at h
  ·cases h
  ·refine ⟨fun x hx => ?_, by omega, by omega⟩
   have hw := checkGo_wrong l [] h x hx
   unfold wrongN at hw
   split at hw
   ·cases hw
   ·omega
def mayAll (t c b : Int) (es : List En) : Bool := es.all (fun e => mayN t c b e.loc)
theorem mayAll_at {t c b : Int} {es : List En} {j : Nat} {e : En} (h : es[j]? = some e) : mayAll t c b (es.drop j) = (mayN t c b e.loc && mayAll t c b (es.drop (j + 1))) := by
 obtain ⟨hj, hk⟩ := List.getElem?_eq_some_iff.1 h
 rw [List.drop_eq_getElem_cons hj, hk]
 rfl
def dcheckN (t c b who seq st : Int) (es : List En) : Int :=
 if checkN t c b ≠ 0 then 1 else if (placeN t c b who).2 = 0 then 3 else if seq < 1 ∨ 16777215 < seq then 3 else if st < 0 ∨ 3 < st then 2 else if checkE es ≠ 0 then checkE es
 else if sortB es = false then 12 else if mayAll t c b es = false then 10 else if (placeN t c b who).2 < (es.length : Int) then 15 else 0
set_option maxRecDepth 100000 in
set_option maxHeartbeats 2000000 in
theorem dcheck_any (t c b who seq st : Int) (hw1 : -9223372036854775808 ≤ who) (hw2 : who ≤ 9223372036854775807) (es : List En) (v : Value) (hok : ∀ e ∈ es, EnOk e) (w : World) (hs : Szs w) (hv : Es w v es) :
 Calls Tryd.prog 43 #[.agg #[.int .i64 who, .int .i64 seq, .int .i64 st, v], .agg #[.int .i64 t, .int .i64 c, .int .i64 b]] w fun y w' => y = .returned (.int .i64 (dcheckN t c b who seq st es)) ∧ ∃ r, w' = ext w r := by
 have HV := hid hv
 have HS := hid hs
 have HO := hid hok
 obtain ⟨a, cp, rfl, ⟨hm, hlc⟩, _⟩ := hv
 clear hs hok
 obtain ⟨q, hq⟩ : ∃ q, q = dcheckN t c b who seq st es := ⟨_, rfl⟩
 have HQ := hid hq
 rw [← hq]
 clear hq
 go_enter Tryd.func43, Tryd.ntmps43
 go_wp2_with fail
 go_call (check_any t c b _ (HS.out.of (by (show Ext _ _; repeat first | (with_reducible first | (refine xH ?_; assumption) | exact xR _ | refine xX ?_ _ | refine xA ?_ _) | refine xD ?_ | refine xN ?_ _ | exact xR _)))) as e w' ⟨rfl, r1, rfl⟩
 by_cases h1 : checkN t c b = 0
 rotate_left
 ·have HR := hid (show q = 1 by rw [HQ.out]; unfold dcheckN; rw [if_pos h1])
  have hb : (checkN t c b != 0) = true := by simpa using h1
  clear h1
  go_wp2_with fail
  go_ret
  exact ⟨ret_int HR.out.symm, by (show Ext _ _; repeat first | (with_reducible first | (refine xH ?_; assumption) | exact xR _ | refine xX ?_ _ | refine xA ?_ _) | refine xD ?_ | refine xN ?_ _ | exact xR _)⟩
 have H1 := hid h1
 rw [h1]
 clear h1
 go_wp2_with fail
 go_call (place_any t c b who hw1 hw2 _ (HS.out.of (by (show Ext _ _; repeat first | (with_reducible first | (refine xH ?_; assumption) | exact xR _ | refine xX ?_ _ | refine xA ?_ _) | refine xD ?_ | refine xN ?_ _ | exact xR _)))) as e w' ⟨rfl, r2, rfl⟩
 obtain ⟨⟨pa, pm⟩, hp⟩ : ∃ p, p = placeN t c b who := ⟨_, rfl⟩
 rw [← hp]
 have HP := hid hp
 clear hp
 by_cases h2 : pm = 0
 ·have HR := hid (show q = 3 by rw [HQ.out]; unfold dcheckN; rw [if_neg (by rw [H1.out]; simp), if_pos (by rw [← HP.out]; exact h2)])
  subst h2
  go_wp2_with fail
  go_ret
  exact ⟨ret_int HR.out.symm, by (show Ext _ _; repeat first | (with_reducible first | (refine xH ?_; assumption) | exact xR _ | refine xX ?_ _ | refine xA ?_ _) | refine xD ?_ | refine xN ?_ _ | exact xR _)⟩
 have H2 := hid h2
 have hb2 : (pm == 0) = false := by simpa using h2
 clear h2
 by_cases h3 : seq < 1 ∨ 16777215 < seq
 ·have HR := hid (show q = 3 by rw [HQ.out]; unfold dcheckN; rw [if_neg (by rw [H1.out]; simp), if_neg (by rw [← HP.out]; exact H2.out), if_pos h3])
  rcases h3 with h3 | h3
  ·go_wp2_with fail
   go_ret
   exact ⟨ret_int HR.out.symm, by (show Ext _ _; repeat first | (with_reducible first | (refine xH ?_; assumption) | exact xR _ | refine xX ?_ _ | refine xA ?_ _) | refine xD ?_ | refine xN ?_ _ | exact xR _)⟩
  ·have h3' : ¬ seq < 1 := by omega
   go_wp2_with fail
   go_ret
   exact ⟨ret_int HR.out.symm, by (show Ext _ _; repeat first | (with_reducible first | (refine xH ?_; assumption) | exact xR _ | refine xX ?_ _ | refine xA ?_ _) | refine xD ?_ | refine xN ?_ _ | exact xR _)⟩
 have H3 := hid h3
 have h31 : ¬ seq < 1 := by omega
 have h32 : ¬ 16777215 < seq := by omega
 clear h3
 by_cases h4 : st < 0 ∨ 3 < st
 ·have HR := hid (show q = 2 by rw [HQ.out]; unfold dcheckN; rw [if_neg (by rw [H1.out]; simp), if_neg (by rw [← HP.out]; exact H2.out), if_neg H3.out, if_pos h4])
  rcases h4 with h4 | h4
  ·go_wp2_with fail
   go_ret
   exact ⟨ret_int HR.out.symm, by (show Ext _ _; repeat first | (with_reducible first | (refine xH ?_; assumption) | exact xR _ | refine xX ?_ _ | refine xA ?_ _) | refine xD ?_ | refine xN ?_ _ | exact xR _)⟩
  ·have h4' : ¬ st < 0 := by omega
   go_wp2_with fail
   go_ret
   exact ⟨ret_int HR.out.symm, by (show Ext _ _; repeat first | (with_reducible first | (refine xH ?_; assumption) | exact xR _ | refine xX ?_ _ | refine xA ?_ _) | refine xD ?_ | refine xN ?_ _ | exact xR _)⟩
 have H4 := hid h4
 have h41 : ¬ st < 0 := by omega
 have h42 : ¬ 3 < st := by omega
 clear h4
 go_wp2_with fail
 go_call (echeck_any es _ HO.out _ (HV.out.of enE_len (by (show Ext _ _; repeat first | (with_reducible first | (refine xH ?_; assumption) | exact xR _ | refine xX ?_ _ | refine xA ?_ _) | refine xD ?_ | refine xN ?_ _ | exact xR _)))) as e w' ⟨rfl, r3, rfl⟩
 by_cases h5 : checkE es = 0
 rotate_left
 ·have HR := hid (show q = checkE es by rw [HQ.out]; unfold dcheckN; rw [if_neg (by rw [H1.out]; simp), if_neg (by rw [← HP.out]; exact H2.out), if_neg H3.out, if_neg H4.out, if_pos h5])
  have hb : (checkE es != 0) = true := by simpa using h5
  clear h5
  go_wp2_with fail
  go_ret
  exact ⟨ret_int HR.out.symm, by (show Ext _ _; repeat first | (with_reducible first | (refine xH ?_; assumption) | exact xR _ | refine xX ?_ _ | refine xA ?_ _) | refine xD ?_ | refine xN ?_ _ | exact xR _)⟩
 obtain ⟨hloc, hl1, hl32⟩ := check_loc h5
 have HLoc := hid hloc
 have H5 := hid h5
 rw [h5]
 clear h5 hloc
 go_wp2_with fail
 go_call (sorted_any es _ HLoc.out (by omega) _ (HV.out.of enE_len (by (show Ext _ _; repeat first | (with_reducible first | (refine xH ?_; assumption) | exact xR _ | refine xX ?_ _ | refine xA ?_ _) | refine xD ?_ | refine xN ?_ _ | exact xR _)))) as e w' ⟨rfl, r4, rfl⟩
 cases h6 : sortB es
 ·have HR := hid (show q = 12 by rw [HQ.out]; unfold dcheckN; rw [if_neg (by rw [H1.out]; simp), if_neg (by rw [← HP.out]; exact H2.out), if_neg H3.out, if_neg H4.out, if_neg (by rw [H5.out]; simp), if_pos h6])
  clear h6
  go_wp2_with fail
  go_ret
  exact ⟨ret_int HR.out.symm, by (show Ext _ _; repeat first | (with_reducible first | (refine xH ?_; assumption) | exact xR _ | refine xX ?_ _ | refine xA ?_ _) | refine xD ?_ | refine xN ?_ _ | exact xR _)⟩
 have H6 := hid h6
 clear h6
 have HT := hid (show q = if mayAll t c b es = false then 10 else if pm < (es.length : Int) then 15 else 0 by
  rw [HQ.out]; unfold dcheckN; rw [if_neg (by rw [H1.out]; simp), if_neg (by rw [← HP.out]; exact H2.out), if_neg H3.out, if_neg H4.out, if_neg (by rw [H5.out]; simp), if_neg (by rw [H6.out]; simp), ← HP.out])
 have H0 := hid (show mayAll t c b es = mayAll t c b (es.drop 0) from rfl)
 go_wp2_with fail
 go_loopw [54] (fun i wr => ∃ j : Nat, j ≤ es.length ∧ i = .int .i64 j ∧ Hid (mayAll t c b es = mayAll t c b (es.drop j)) ∧ ∃ r, wr = ext (ext ((w.alloc (.cells #[.int .i64 who, .int .i64 seq, .int .i64 st, .slice a es.length cp] 70)).alloc (.cells #[.int .i64 t, .int .i64 c, .int .i64 b] 25)) r1) r) (fun i _ => es.length - (intOf i).toNat)
 case atStart => exact ⟨0, by omega, rfl, H0, by (show Ext _ _; repeat first | (with_reducible first | (refine xH ?_; assumption) | exact xR _ | refine xX ?_ _ | refine xA ?_ _) | refine xD ?_ | refine xN ?_ _ | exact xR _)⟩
 case round =>
  clear H0
  obtain ⟨j, hj, rfl, HJ, r, rfl⟩ := hrel
  by_cases hjl : j < es.length
  ·have hd : decide (j < es.length) = true := decide_eq_true hjl
   obtain ⟨hnl, b0, o, hab, hbl, hcs⟩ := Sl.at HV.out (List.getElem?_eq_getElem hjl)
   have HX := hid (List.getElem?_eq_getElem hjl)
   have hlc2 := HLoc.out _ (List.getElem_mem hjl)
   generalize es[j] = e at hcs HX hlc2
   have HA := hid (mayAll_at (t := t) (c := c) (b := b) HX.out)
   subst hab
   obtain ⟨loc, val, ver, ref, new, wr1⟩ := e
   have k0 := hcs 0 (by omega)
   have k1 := hcs 1 (by omega)
   have k2 := hcs 2 (by omega)
   have k3 := hcs 3 (by omega)
   have k4 := hcs 4 (by omega)
   have k5 := hcs 5 (by omega)
   simp [enE] at k0 k1 k2 k3 k4 k5
   clear hcs hnl
   dsimp only at hlc2
   obtain ⟨hlo, hhi⟩ := hlc2
   cases hmay : mayN t c b loc
   ·have HM := hid hmay
    have HR := hid (show q = 10 by rw [HT.out, if_pos (by rw [HJ.out, HA.out, hmay]; rfl)])
    clear hmay HA HJ
    go_wp2_with fail
    go_call (may_any t c b loc (by omega) (by omega) _ (HS.out.of (by (show Ext _ _; repeat first | (with_reducible first | (refine xH ?_; assumption) | exact xR _ | refine xX ?_ _ | refine xA ?_ _) | refine xD ?_ | refine xN ?_ _ | exact xR _)))) as e w' ⟨rfl, r5, rfl⟩
    rw [HM.out]
    go_wp2_with fail
    go_ret
    exact ⟨ret_int HR.out.symm, by (show Ext _ _; repeat first | (with_reducible first | (refine xH ?_; assumption) | exact xR _ | refine xX ?_ _ | refine xA ?_ _) | refine xD ?_ | refine xN ?_ _ | exact xR _)⟩
   ·have HM := hid hmay
    have HN := hid (show mayAll t c b es = mayAll t c b (es.drop (j + 1)) by rw [HJ.out, HA.out, hmay]; rfl)
    clear hmay HA HJ
    go_wp2_with fail
    go_call (may_any t c b loc (by omega) (by omega) _ (HS.out.of (by (show Ext _ _; repeat first | (with_reducible first | (refine xH ?_; assumption) | exact xR _ | refine xX ?_ _ | refine xA ?_ _) | refine xD ?_ | refine xN ?_ _ | exact xR _)))) as e w' ⟨rfl, r5, rfl⟩
    rw [HM.out]
    go_wp2_with fail
    go_roundw
    case rel => exact ⟨j + 1, by omega, by go_num, HN, by (show Ext _ _; repeat first | (with_reducible first | (refine xH ?_; assumption) | exact xR _ | refine xX ?_ _ | refine xA ?_ _) | refine xD ?_ | refine xN ?_ _ | exact xR _)⟩
    case measure => simp [intOf]; omega
  ·have hd : decide (j < es.length) = false := decide_eq_false hjl
   have HM := hid (show mayAll t c b es = true by rw [HJ.out, List.drop_eq_nil_of_le (by omega)]; rfl)
   clear HJ
   by_cases h7 : pm < (es.length : Int)
   ·have HR := hid (show q = 15 by rw [HT.out, if_neg (by rw [HM.out]; simp), if_pos h7])
    go_wp2_with fail
    go_ret
    exact ⟨ret_int HR.out.symm, by (show Ext _ _; repeat first | (with_reducible first | (refine xH ?_; assumption) | exact xR _ | refine xX ?_ _ | refine xA ?_ _) | refine xD ?_ | refine xN ?_ _ | exact xR _)⟩
   ·have HR := hid (show q = 0 by rw [HT.out, if_neg (by rw [HM.out]; simp), if_neg h7])
    go_wp2_with fail
    go_ret
    exact ⟨ret_int HR.out.symm, by (show Ext _ _; repeat first | (with_reducible first | (refine xH ?_; assumption) | exact xR _ | refine xX ?_ _ | refine xA ?_ _) | refine xD ?_ | refine xN ?_ _ | exact xR _)⟩
end Go.Proofs.YtdpbcfjfnclpiaaDoor
namespace Go.Proofs.YtdpbcfjfnclpiaaDoor
set_option linter.unusedSimpArgs false
set_option linter.unusedVariables false
open Go.RowKit
def boE (x : Bool) : List Value := [.bool x]
theorem boE_len (x : Bool) : (boE x).length = 1 := rfl
theorem Tryd.infoBool : (Tryd.prog.info? 4).map (fun i => (i.zero, i.size, i.bytes)) = some (some (.bool false), 1, 1) := by kernel_rfl
end Go.Proofs.YtdpbcfjfnclpiaaDoor
