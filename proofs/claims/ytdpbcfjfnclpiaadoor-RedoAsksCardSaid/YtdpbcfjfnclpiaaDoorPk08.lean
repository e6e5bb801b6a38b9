/- Plain: the reference's Right, and the code's checks of entries. Where a descriptor may lie; the walk of package desc's Field. Walks of package desc: Words. -/
import Derived.Test.YtdpbcfjfnclpiaaDoorPk06
import Derived.Test.YtdpbcfjfnclpiaaDoorPk07
namespace Go.Proofs.YtdpbcfjfnclpiaaDoor
set_option linter.unusedSimpArgs false
set_option linter.unusedVariables false
open Go.RowKit
def incP (q : Option En) : List En → Prop
 | [] => True
 | e :: r => (∀ y, q = some y → y.loc < e.loc) ∧ incP (some e) r
def ndecP (q : Option En) : List En → Prop
 | [] => True
 | e :: r => (∀ y, q = some y → y.loc ≤ e.loc) ∧ ndecP (some e) r
def nodP (pre : List En) : List En → Prop
 | [] => True
 | e :: r => pre.any (fun y => y.loc == e.loc) = false ∧ nodP (pre ++ [e]) r
theorem rbad_iff (q : Option En) (e : En) : rbadB q e = false ↔ wrongN e = 0 ∧ ∀ y, q = some y → y.loc < e.loc := by
 obtain ⟨l, v, ve, re, ne, wr⟩ := e
 cases q with
 | none => 
  unfold rbadB wrongN
  cases wr <;> by_cases h1 : l < 0 <;> by_cases h2 : 4096 ≤ l <;> by_cases h3 : re = 0 <;> by_cases h4 : ve = 4294967295 <;> by_cases h5 : ne = v <;> simp [h1, h2, h3, h4, h5]
 | some y =>
  unfold rbadB wrongN
  by_cases h6 : l ≤ y.loc
  ·have h7 : ¬ y.loc < l := by omega
   cases wr <;> by_cases h1 : l < 0 <;> by_cases h2 : 4096 ≤ l <;> by_cases h3 : re = 0 <;> by_cases h4 : ve = 4294967295 <;> by_cases h5 : ne = v <;> simp [h1, h2, h3, h4, h5, h6, h7]
  ·have h7 : y.loc < l := by omega
   cases wr <;> by_cases h1 : l < 0 <;> by_cases h2 : 4096 ≤ l <;> by_cases h3 : re = 0 <;> by_cases h4 : ve = 4294967295 <;> by_cases h5 : ne = v <;> simp [h1, h2, h3, h4, h5, h6, h7]
theorem rightGo_iff : ∀ (l : List En) (q : Option En), rightGo q l = true ↔ (∀ x ∈ l, wrongN x = 0) ∧ incP q l
 | [], q => by simp [rightGo, incP]
 | e :: r, q => by
  have hb := rbad_iff q e
  have ih := rightGo_iff r (some e)
  simp only [rightGo, Bool.and_eq_true, Bool.not_eq_true', hb, ih, incP, List.mem_cons, forall_eq_or_imp]
  constructor
  ·rintro ⟨⟨a, b⟩, c, d⟩; exact ⟨⟨a, c⟩, b, d⟩
  ·rintro ⟨⟨a, c⟩, b, d⟩; exact ⟨⟨a, b⟩, c, d⟩
theorem checkGo_iff : ∀ (l pre : List En), checkGo pre l = 0 ↔ (∀ x ∈ l, wrongN x = 0) ∧ nodP pre l
 | [], pre => by simp [checkGo, nodP]
 | e :: r, pre => by
  have ih := checkGo_iff r (pre ++ [e])
  unfold checkGo
  by_cases hw : wrongN e = 0
  ·rw [if_neg (by simpa using hw)]
   cases ha : pre.any (fun y => y.loc == e.loc)
   ·simp only [Bool.false_eq_true, if_false, ih, nodP, ha, List.mem_cons, forall_eq_or_imp, true_and, hw]
   ·simp [nodP, ha]
  ·rw [if_pos hw]
   simp [hw]
theorem inc_iff : ∀ (l pre : List En) (q : Option En), (∀ y, q = some y → y ∈ pre ∧ ∀ x ∈ pre, x.loc ≤ y.loc) → (q = none → pre = []) → (incP q l ↔ ndecP q l ∧ nodP pre l)
 | [], pre, q, _, _ => by simp [incP, ndecP, nodP]
 | e :: r, pre, q, h1, h2 => by
  have hnew : (∀ y, q = some y → y.loc ≤ e.loc) → ∀ x ∈ pre, x.loc ≤ e.loc := by
   intro h x hx
   cases q with
   | none => rw [h2 rfl] at hx; simp at hx
   | some y => have := (h1 y rfl).2 x hx; have := h y rfl; omega
  have step : (∀ y, q = some y → y.loc ≤ e.loc) → (incP (some e) r ↔ ndecP (some e) r ∧ nodP (pre ++ [e]) r) := by
   intro h
   refine inc_iff r (pre ++ [e]) (some e) ?_ (fun h => by cases h)
   rintro y ⟨⟩
   refine ⟨by simp, fun x hx => ?_⟩
   rcases List.mem_append.1 hx with hx | hx
   ·exact hnew h x hx
   ·rw [List.mem_singleton] at hx; subst hx; exact Int.le_refl _
  simp only [incP, ndecP, nodP]
  constructor
  ·rintro ⟨a, b⟩
   have ha : ∀ y, q = some y → y.loc ≤ e.loc := fun y hy => by have := a y hy; omega
   obtain ⟨c, d⟩ := (step ha).1 b
   refine ⟨⟨ha, c⟩, ?_, d⟩
   rw [List.any_eq_false]
   intro x hx
   cases q with
   | none => rw [h2 rfl] at hx; simp at hx
   | some y => have := (h1 y rfl).2 x hx; have := a y rfl; simp; omega
  ·rintro ⟨⟨a, c⟩, b, d⟩
   refine ⟨fun y hy => ?_, (step a).2 ⟨c, d⟩⟩
   have h3 := a y hy
   have h4 := List.any_eq_false.1 b y (h1 y hy).1
   simp at h4
   omega
theorem ndec_iff : ∀ (l : List En) (q : Option En), ndecP q l ↔ (∀ y, q = some y → ∀ x, l[0]? = some x → y.loc ≤ x.loc) ∧ ∀ k a b, l[k]? = some b → l[k + 1]? = some a → b.loc ≤ a.loc
 | [], q => by simp [ndecP]
 | e :: r, q => by
  rw [ndecP, ndec_iff r (some e)]
  constructor
  ·rintro ⟨a, b, c⟩
   refine ⟨fun y hy x hx => by simp at hx; subst hx; exact a y hy, fun k u v hv hu => ?_⟩
   cases k with
   | zero => simp at hv hu; subst hv; exact b _ rfl u (by simpa using hu)
   | succ k => exact c k u v (by simpa using hv) (by simpa using hu)
  ·rintro ⟨a, c⟩
   exact ⟨fun y hy => a y hy e rfl, fun y hy x hx => by cases hy; exact c 0 x e rfl (by simpa using hx), fun k u v hv hu => c (k + 1) u v (by simpa using hv) (by simpa using hu)⟩
theorem sortTo_iff (es : List En) : ∀ k, k < es.length → (sortTo es k = true ↔ ∀ i, i < k → ∀ a b, es[i]? = some b → es[i + 1]? = some a → b.loc ≤ a.loc)
 | 0, _ => by simp [sortTo]
 | k + 1, h => by
  have ha := List.getElem?_eq_getElem h
  have hb := List.getElem?_eq_getElem (show k < es.length by omega)
  rw [sortTo_at ha hb, Bool.and_eq_true, decide_eq_true_eq, sortTo_iff es k (by omega)]
  constructor
  ·rintro ⟨h1, h2⟩ i hi a b hib hia
   by_cases hik : i = k
   ·subst hik
    rw [hb] at hib
    rw [ha] at hia
    cases hib
    cases hia
    exact h1
   ·exact h2 i (by omega) a b hib hia
  ·intro h1
   exact ⟨h1 k (by omega) _ _ hb ha, fun i hi a b hib hia => h1 i (by omega) a b hib hia⟩
theorem sortB_iff (es : List En) : sortB es = true ↔ ndecP none es := by
 rw [ndec_iff]
 by_cases h0 : es.length = 0
 ·have : es = [] := List.length_eq_zero_iff.1 h0
  subst this
  simp [sortB, sortTo]
 ·unfold sortB
  rw [sortTo_iff es _ (by omega)]
  constructor
  ·intro h
   refine ⟨by simp, fun k a b hb ha => h k ?_ a b hb ha⟩
   have := (List.getElem?_eq_some_iff.1 ha).1
   omega
  ·rintro ⟨_, h⟩ i _ a b hb ha
   exact h i a b hb ha
theorem right_iff (es : List En) : rightB es = true ↔ checkE es = 0 ∧ sortB es = true := by
 unfold rightB
 rw [Bool.and_eq_true, decide_eq_true_eq, rightGo_iff, inc_iff es [] none (by simp) (fun _ => rfl), sortB_iff]
 unfold checkE
 by_cases h0 : es.length = 0
 ·simp [h0]
 ·by_cases h1 : 32 < es.length
  ·have h2 : ¬ es.length ≤ 32 := by omega
   simp [h0, h1, h2]
  ·rw [if_neg h0, if_neg h1, checkGo_iff]
   constructor
   ·rintro ⟨⟨a, b, c⟩, _⟩; exact ⟨⟨a, c⟩, b⟩
   ·rintro ⟨⟨a, c⟩, b⟩; exact ⟨⟨a, b, c⟩, by omega, by omega⟩
end Go.Proofs.YtdpbcfjfnclpiaaDoor
namespace Go.Proofs.YtdpbcfjfnclpiaaDoor
set_option linter.unusedSimpArgs false
set_option linter.unusedVariables false
open Go.RowKit
theorem atN_bd {t c b : Int} {p : Nat} {i more : Int} (hm : 0 ≤ more ∧ more ≤ 2) : -1 ≤ atN t c b p i more ∧ atN t c b p i more ≤ 3007 * p + 3002 := by
 unfold atN
 split
 ·rename_i h
  obtain ⟨hr, h0, h1⟩ := h
  have hk := (right_lok hr).1
  have := from_bd hk p
  have := prod_bd hk p h0 h1
  omega
 ·omega
theorem place_bd (t c b who : Int) : (-1 ≤ (placeN t c b who).1 ∧ (placeN t c b who).1 ≤ 30000) ∧ 0 ≤ (placeN t c b who).2 ∧ (placeN t c b who).2 ≤ 32 := by
 have h6 := atN_bd (t := t) (c := c) (b := b) (p := 6) (i := who - 9) (more := 0) (by omega)
 have h4 := atN_bd (t := t) (c := c) (b := b) (p := 4) (i := wrap64 (who - 1)) (more := 0) (by omega)
 unfold placeN
 by_cases h9 : 9 ≤ who
 ·simp only [h9, if_true]
  split <;> constructor <;> simp <;> omega
 ·simp only [h9, if_false]
  split <;> constructor <;> simp <;> omega
def fieldN (t c b who n part : Int) : Int × Int :=
 if checkN t c b ≠ 0 then (0, 1) else if n < 0 ∨ (placeN t c b who).2 ≤ n ∨ part < 0 ∨ 3 ≤ part then (0, 3) else ((placeN t c b who).1 + (2 + 3 * n + part), 0)
end Go.Proofs.YtdpbcfjfnclpiaaDoor
namespace Go.Proofs.YtdpbcfjfnclpiaaDoor
set_option linter.unusedSimpArgs false
set_option linter.unusedVariables false
open Go.RowKit
theorem wdE_one (e : Wd) : ∀ u ∈ wdE e, u.oneCell' = true := by
 intro u hu
 simp only [wdE, List.mem_cons, List.not_mem_nil, or_false] at hu
 rcases hu with rfl | rfl | rfl <;> rfl
theorem ws_append {ops : Array Oper} {rest : List Oper} {o : Oper} {a : Act} {Q : Exit → Act → World → Prop} {w : World} {base : Nat} {v : Value} {l : List Wd} (hgd : o.guard = none)
 (s x : Operand) (ho : o.op = .call { callee := .builtin .append, args := #[s, x], argTypes := #[41, 41] })
 (W : World) (hW : Ext W w) (hWb : W.heap.size ≤ base) (hbw : base ≤ w.heap.size) (hs : a.eval s = v) (hown : Ws w base v l)
 (ad : Addr) (m c : Nat) (hx : a.eval x = .slice (some ad) m c) (news : List Wd) (hm : news.length = m)
 (hnews : ∀ (j : Nat) (u : Value), (news.flatMap wdE)[j]? = some u → w.cell? (ad.add j) = some u)
 (hlen : l.length + m ≤ 1000000)
 (h : ∀ v' r, Ws (ext W r) base v' (l ++ news) → wpList Tryd.prog ops Q rest (a.put o.dst v') (ext W r)) : wpList Tryd.prog ops Q (o :: rest) a w := by
 obtain ⟨i0, hi, hz0, hz1, hz2⟩ := info_parts Tryd.infoWord
 exact own_append Tryd.underlying41 hi hz0 hz1 hz2 rfl (by decide) wdE_len wdE_one hgd s x ho W hW hWb hbw hs hown ad m c hx news hm hnews (by unfold maxLen; omega) (by omega) h
def bodyW (es : List En) : List Wd := es.flatMap packW
def wordsW (seq st : Int) (es : List En) : List Wd := [(st, seq, 0), ((es.length : Int), 0, 0)] ++ bodyW es
theorem packW_len (e : En) : (packW e).length = 3 := rfl
theorem bodyW_len (es : List En) : (bodyW es).length = 3 * es.length := by
 unfold bodyW
 induction es with
 | nil => rfl
 | cons x r ih => rw [List.flatMap_cons, List.length_append, ih, packW_len, List.length_cons]; omega
theorem bodyW_at {es : List En} {j : Nat} {e : En} (h : es[j]? = some e) : bodyW (es.take (j + 1)) = bodyW (es.take j) ++ packW e := by
 obtain ⟨hj, hk⟩ := List.getElem?_eq_some_iff.1 h
 unfold bodyW
 rw [List.take_succ_eq_append_getElem hj, hk, List.flatMap_append]
 simp
theorem dcheck_ok {t c b who seq st : Int} {es : List En} (h : dcheckN t c b who seq st es = 0) : checkN t c b = 0 ∧ (placeN t c b who).2 ≠ 0 ∧ (1 ≤ seq ∧ seq ≤ 16777215) ∧ (0 ≤ st ∧ st ≤ 3) ∧ checkE es = 0 ∧ sortB es = true ∧ mayAll t c b es = true ∧ (es.length : Int) ≤ (placeN t c b who).2 := by
 unfold dcheckN at h
 split at h
 ·cases h
 rename_i h1
 split at h
 ·cases h
 rename_i h2
 split at h
 ·cases h
 rename_i h3
 split at h
 ·cases h
 rename_i h4
 split at h
 ·rename_i h5; exact absurd h h5
 rename_i h5
 split at h
 ·cases h
 rename_i h6
 split at h
 ·cases h
 rename_i h7
 split at h
 ·cases h
 rename_i h8
 exact ⟨by simpa using h1, h2, by omega, by omega, by simpa using h5, by simpa using h6, by simpa using h7, by omega⟩
set_option maxRecDepth 100000 in
set_option maxHeartbeats 2000000 in
theorem dwords_any (t c b who seq st : Int) (hw1 : -9223372036854775808 ≤ who) (hw2 : who ≤ 9223372036854775807) (es : List En) (v : Value) (hok : ∀ e ∈ es, EnOk e) (w : World) (hs : Szs w) (hv : Es w v es) :
 Calls Tryd.prog 15 #[.agg #[.int .i64 t, .int .i64 c, .int .i64 b], .agg #[.int .i64 who, .int .i64 seq, .int .i64 st, v]] w fun y w' => ∃ v', y = .returned (.tuple #[v', .int .i64 (dcheckN t c b who seq st es)]) ∧ (∃ r, w' = ext w r) ∧
  Ws w' w.heap.size v' (if dcheckN t c b who seq st es = 0 then wordsW seq st es else []) := by
 have HV := hid hv
 have HS := hid hs
 have HO := hid hok
 obtain ⟨a, cp, rfl, ⟨hm, hlc⟩, _⟩ := hv
 clear hs hok
 by_cases h0 : dcheckN t c b who seq st es = 0
 rotate_left
 ·rw [if_neg h0]
  obtain ⟨q, hq⟩ : ∃ q, q = dcheckN t c b who seq st es := ⟨_, rfl⟩
  have HQ := hid hq
  rw [← hq] at h0 ⊢
  clear hq
  have hb : (q != 0) = true := by simpa using h0
  clear h0
  go_enter Tryd.func15, Tryd.ntmps15
  go_wp2_with fail
  go_call (dcheck_any t c b who seq st hw1 hw2 es _ HO.out _ (HS.out.of (by (show Ext _ _; repeat first | (with_reducible first | (refine xH ?_; assumption) | exact xR _ | refine xX ?_ _ | refine xA ?_ _) | refine xD ?_ | refine xN ?_ _ | exact xR _))) (HV.out.of enE_len (by (show Ext _ _; repeat first | (with_reducible first | (refine xH ?_; assumption) | exact xR _ | refine xX ?_ _ | refine xA ?_ _) | refine xD ?_ | refine xN ?_ _ | exact xR _)))) as y w' ⟨rfl, r1, rfl⟩
  rw [← HQ.out]
  go_wp2_with fail
  go_ret2
  exact ⟨_, rfl, by (show Ext _ _; repeat first | (with_reducible first | (refine xH ?_; assumption) | exact xR _ | refine xX ?_ _ | refine xA ?_ _) | refine xD ?_ | refine xN ?_ _ | exact xR _), Own.nil⟩
 ·rw [if_pos h0]
  obtain ⟨_, _, ⟨hq1, hq2⟩, ⟨ht1, ht2⟩, he, _, _, _⟩ := dcheck_ok h0
  obtain ⟨_, _, hl32⟩ := check_loc he
  have H0 := hid h0
  rw [h0]
  clear h0 he
  go_enter Tryd.func15, Tryd.ntmps15
  go_wp2_with fail
  go_call (dcheck_any t c b who seq st hw1 hw2 es _ HO.out _ (HS.out.of (by (show Ext _ _; repeat first | (with_reducible first | (refine xH ?_; assumption) | exact xR _ | refine xX ?_ _ | refine xA ?_ _) | refine xD ?_ | refine xN ?_ _ | exact xR _))) (HV.out.of enE_len (by (show Ext _ _; repeat first | (with_reducible first | (refine xH ?_; assumption) | exact xR _ | refine xX ?_ _ | refine xA ?_ _) | refine xD ?_ | refine xN ?_ _ | exact xR _)))) as y w' ⟨rfl, r1, rfl⟩
  rw [H0.out]
  go_wp2_with fail
  refine wp_region_held_drew (S := fun w' => Ext w w' ∧ w'.cell? ⟨w.heap.size + 1, 1, none⟩ = some (.int .i64 seq) ∧ w'.cell? ⟨w.heap.size + 1, 2, none⟩ = some (.int .i64 st) ∧ w'.cell? ⟨w.heap.size + 1, 3, none⟩ = some (.slice a es.length cp)) (by kernel_rfl) (⟨by (show Ext _ _; repeat first | (with_reducible first | (refine xH ?_; assumption) | exact xR _ | refine xX ?_ _ | refine xA ?_ _) | refine xD ?_ | refine xN ?_ _ | exact xR _), by simp [go_sem], by simp [go_sem], by simp [go_sem]⟩) (fun hHeld => ?_)
  refine take_met 0 (oi := ⟨_, _, _, _, _, _⟩) (v := ?_) (by kernel_rfl) rfl (by rfl) (fun _ _ _ h => h) (by assumption) ?_ ?_
  rotate_left 1
  ·intro w hSw
   try dsimp only at hSw
   go_simp
   try with_reducible rfl
  (try simp only [Act.put, pA, pB, pC])
  refine take_met 1 (oi := ⟨_, _, _, _, _, _⟩) (v := ?_) (by kernel_rfl) rfl (by rfl) (fun _ _ _ h => h) (by assumption) ?_ ?_
  rotate_left 1
  ·intro w hSw
   try dsimp only at hSw
   go_simp
   try with_reducible rfl
  (try simp only [Act.put, pA, pB, pC])
  refine take_met 2 (oi := ⟨_, _, _, _, _, _⟩) (v := ?_) (by kernel_rfl) rfl (by rfl) (fun _ _ _ h => h) (by assumption) ?_ ?_
  rotate_left 1
  ·intro w hSw
   try dsimp only at hSw
   go_simp
   try with_reducible rfl
  (try simp only [Act.put, pA, pB, pC])
  refine take_met 3 (oi := ⟨_, _, _, _, _, _⟩) (v := ?_) (by kernel_rfl) rfl (by rfl) (fun _ _ _ h => h) (by assumption) ?_ ?_
  rotate_left 1
  ·intro w hSw
   try dsimp only at hSw
   go_simp
   try with_reducible rfl
  (try simp only [Act.put, pA, pB, pC])
  refine take_met 5 (oi := ⟨_, _, _, _, _, _⟩) (v := ?_) (by kernel_rfl) rfl (by rfl) (fun _ _ _ h => h) (by assumption) ?_ ?_
  rotate_left 1
  ·intro w hSw
   try dsimp only at hSw
   go_simp
   try with_reducible rfl
  (try simp only [Act.put, pA, pB, pC])
  refine take_met 6 (oi := ⟨_, _, _, _, _, _⟩) (v := ?_) (by kernel_rfl) rfl (by rfl) (fun _ _ _ h => h) (by assumption) ?_ ?_
  rotate_left 1
  ·intro w hSw
   try dsimp only at hSw
   go_simp
   try with_reducible rfl
  (try simp only [Act.put, pA, pB, pC])
  refine take_met 7 (oi := ⟨_, _, _, _, _, _⟩) (v := ?_) (by kernel_rfl) rfl (by rfl) (fun _ _ _ h => h) (by assumption) ?_ ?_
  rotate_left 1
  ·intro w hSw
   try dsimp only at hSw
   go_simp
   try with_reducible rfl
  (try simp only [Act.put, pA, pB, pC])
  refine take_met 8 (oi := ⟨_, _, _, _, _, _⟩) (v := ?_) (by kernel_rfl) rfl (by rfl) (fun _ _ _ h => h) (by assumption) ?_ ?_
  rotate_left 1
  ·intro w hSw
   try dsimp only at hSw
   go_simp
   try with_reducible rfl
  (try simp only [Act.put, pA, pB, pC])
  refine take_only 4 (oi := ⟨_, _, _, _, _, _⟩) (by kernel_rfl) rfl (fun K hK => ?_)
  go_simp
  first
   | (go_at_call 18; refine (status_any st seq (by omega) (by omega) _).mono ?_; rintro e w' ⟨rfl, r2, rfl⟩)
  have hOld := hHeld
  clear hHeld
  refine hK.out _ _ (⟨by (show Ext _ _; repeat first | (with_reducible first | (refine xH ?_; assumption) | exact xR _ | refine xX ?_ _ | refine xA ?_ _) | refine xD ?_ | refine xN ?_ _ | exact xR _), by simp [go_sem], by simp [go_sem], by simp [go_sem]⟩) (fun hHeld => ?_)
  clear hOld hK K
  (try simp only [Act.put, pA, pB, pC])
  refine take_only 9 (oi := ⟨_, _, _, _, _, _⟩) (by kernel_rfl) rfl (fun K hK => ?_)
  go_simp
  have hOld := hHeld
  clear hHeld
  refine hK.out _ _ (⟨by (show Ext _ _; repeat first | (with_reducible first | (refine xH ?_; assumption) | exact xR _ | refine xX ?_ _ | refine xA ?_ _) | refine xD ?_ | refine xN ?_ _ | exact xR _), by simp [go_sem], by simp [go_sem], by simp [go_sem]⟩) (fun hHeld => ?_)
  clear hOld hK K
  (try simp only [Act.put, pA, pB, pC])
  refine take_met 10 (oi := ⟨_, _, _, _, _, _⟩) (v := ?_) (by kernel_rfl) rfl (by rfl) (fun _ _ _ h => h) (by assumption) ?_ ?_
  rotate_left 1
  ·intro w hSw
   try dsimp only at hSw
   go_simp
   try with_reducible rfl
  (try simp only [Act.put, pA, pB, pC])
  refine wpAnyH_done (by kernel_rfl) ?_ _
  clear hHeld
  have hm9 := Own.made (e := 40) (enc := wdE) (size := 3) (base := w.heap.size) (w := (ext (ext ((w.alloc (.cells #[.int .i64 t, .int .i64 c, .int .i64 b] 25)).alloc (.cells #[.int .i64 who, .int .i64 seq, .int .i64 st, .slice a es.length cp] 70)) r1) r2)) #[.int .i64 st, .int .u32 seq, .int .u32 0, .int .i64 (es.length : Int), .int .u32 0, .int .u32 0] [(st, seq, 0), ((es.length : Int), 0, 0)] 2 rfl (by simp; omega) (by unfold maxLen; omega) rfl rfl
  simp only [size_ext, World.size_alloc] at hm9
  have HM := hid hm9
  clear hm9
  go_wp2_with fail
  go_loopw [7, 30] (fun u i wr => ∃ j : Nat, j ≤ es.length ∧ i = .int .i64 j ∧ Ws wr w.heap.size u ([(st, seq, 0), ((es.length : Int), 0, 0)] ++ bodyW (es.take j)) ∧ Ext w wr) (fun _ i _ => es.length - (intOf i).toNat)
  case atStart => exact ⟨0, by omega, rfl, HM.out, by (show Ext _ _; repeat first | (with_reducible first | (refine xH ?_; assumption) | exact xR _ | refine xX ?_ _ | refine xA ?_ _) | refine xD ?_ | refine xN ?_ _ | exact xR _)⟩
  case round =>
   clear HM
   obtain ⟨j, hj, rfl, hown, r, rfl⟩ := hrel
   by_cases hjl : j < es.length
   ·have hd : decide (j < es.length) = true := decide_eq_true hjl
    obtain ⟨hnl, b0, o, hab, hbl, hcs⟩ := Sl.at HV.out (List.getElem?_eq_getElem hjl)
    have HX := hid (List.getElem?_eq_getElem hjl)
    generalize es[j] = e at hcs HX
    have HA := hid (bodyW_at HX.out)
    have HL := hid (show (([(st, seq, 0), ((es.length : Int), 0, 0)] : List Wd) ++ bodyW (es.take j)).length ≤ 1000 by rw [List.length_append, bodyW_len, List.length_take]; simp; omega)
    subst hab
    obtain ⟨loc, val, ver, ref, new, wr1⟩ := e
    have k0 := hcs 0 (by omega)
    have k1 := hcs 1 (by omega)
    have k2 := hcs 2 (by omega)
    have k3 := hcs 3 (by omega)
    have k4 := hcs 4 (by omega)
    have k5 := hcs 5 (by omega)
    simp [enE] at k0 k1 k2 k3 k4 k5
    have HO2 := hid hown
    clear hcs hnl hown
    cases wr1
    ·go_wp2_with fail
     go_call (pack_any loc val ver ref new _ _) as y w' ⟨rfl, r3, rfl⟩
     simp only [if_true, Bool.false_eq_true, if_false]
     go_wp2_with (at_builtin; refine ws_append rfl _ _ rfl w (by (show Ext _ _; repeat first | (with_reducible first | (refine xH ?_; assumption) | exact xR _ | refine xX ?_ _ | refine xA ?_ _) | refine xD ?_ | refine xN ?_ _ | exact xR _)) (Nat.le_refl _) (by (first | exact Nat.le_refl _ | (simp; done) | (simp; omega))) rfl (Own.alloc (Own.ext (Own.alloc HO2.out _) _) _) _ 3 3 rfl (packW ⟨loc, val, ver, ref, new, false⟩) rfl (news_new rfl _ (by (first | rfl | (simp; done)))) (by have := HL.out; omega) ?_; rintro v' r' hv')
     go_roundw
     case rel => exact ⟨j + 1, by omega, by go_num, by rw [HA.out, ← List.append_assoc]; exact hv', by (show Ext _ _; repeat first | (with_reducible first | (refine xH ?_; assumption) | exact xR _ | refine xX ?_ _ | refine xA ?_ _) | refine xD ?_ | refine xN ?_ _ | exact xR _)⟩
     case measure => simp [intOf]; omega
    ·go_wp2_with fail
     go_call (pack_any loc val ver ref new _ _) as y w' ⟨rfl, r3, rfl⟩
     simp only [if_true, Bool.false_eq_true, if_false]
     go_wp2_with (at_builtin; refine ws_append rfl _ _ rfl w (by (show Ext _ _; repeat first | (with_reducible first | (refine xH ?_; assumption) | exact xR _ | refine xX ?_ _ | refine xA ?_ _) | refine xD ?_ | refine xN ?_ _ | exact xR _)) (Nat.le_refl _) (by (first | exact Nat.le_refl _ | (simp; done) | (simp; omega))) rfl (Own.alloc (Own.ext (Own.alloc HO2.out _) _) _) _ 3 3 rfl (packW ⟨loc, val, ver, ref, new, true⟩) rfl (news_new rfl _ (by (first | rfl | (simp; done)))) (by have := HL.out; omega) ?_; rintro v' r' hv')
     go_roundw
     case rel => exact ⟨j + 1, by omega, by go_num, by rw [HA.out, ← List.append_assoc]; exact hv', by (show Ext _ _; repeat first | (with_reducible first | (refine xH ?_; assumption) | exact xR _ | refine xX ?_ _ | refine xA ?_ _) | refine xD ?_ | refine xN ?_ _ | exact xR _)⟩
     case measure => simp [intOf]; omega
   ·have hd : decide (j < es.length) = false := decide_eq_false hjl
    obtain rfl : j = es.length := by omega
    rw [List.take_length] at hown
    go_wp2_with fail
    go_ret2
    exact ⟨_, rfl, by (show Ext _ _; repeat first | (with_reducible first | (refine xH ?_; assumption) | exact xR _ | refine xX ?_ _ | refine xA ?_ _) | refine xD ?_ | refine xN ?_ _ | exact xR _), hown⟩
end Go.Proofs.YtdpbcfjfnclpiaaDoor
