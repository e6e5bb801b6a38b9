/- General laws, of no program in particular: the moves of a walk over a region that draws its order, where the calls wait for one another and all else only reads what a condition on the world gives; operations whose guard is not met are passed over. No condition. General laws: as Fact, but heads that need no memory (an extract) may come up late, among the stores. No condition. -/
import Derived.Deep.RegionHeld3
import Derived.Test.YtiacdohaiidehaaGreatDoorPk03
namespace Go.Proofs.YtiacdohaiidehaaGreatDoor
set_option linter.unusedSimpArgs false
set_option linter.unusedVariables false
open Go.RowKit
def mayTake (ops : Array Oper) (listed : Array Bool) (i : Nat) : Bool := (Region.ready .any ops listed).contains i && Region.noSelect ops && Region.free .any ops listed i
section
variable {P : Program} {ops : Array Oper} {Q : Exit → Act → World → Prop} {S : World → Prop}
theorem take_met (i : Nat) {oi : Oper} {v : Value} {fuel : Nat} {listed : Array Bool} {a : Act} {w : World} (hm : mayTake ops listed i = true) (hi : ops[i]? = some oi)
 (hw : Region.wanted oi (yielded ops a.tmps) = true) (hQ : ∀ c a w, Q (.panic c) (a.put oi.dst v) w → Q (.panic c) a w) (hS : S w) (hy : ∀ w, S w → (execOp a.eval oi).run P w = .ok (.value v) w)
 (h : wpAnyH P .any ops Q S fuel (listed.setIfInBounds i true) (a.put oi.dst v) w) : wpAnyH P .any ops Q S (fuel + 1) listed a w := by
 simp only [mayTake, Bool.and_eq_true] at hm
 exact wpAnyH_take hi hm.1.2 hm.2 hm.1.1 hQ (.inl ⟨hw, hy⟩) hS h
theorem take_unmet (i : Nat) {oi : Oper} {fuel : Nat} {listed : Array Bool} {a : Act} {w : World} (hm : mayTake ops listed i = true) (hi : ops[i]? = some oi)
 (hw : Region.wanted oi (yielded ops a.tmps) = false) (hQ : ∀ c a w, Q (.panic c) (a.put oi.dst undef) w → Q (.panic c) a w) (hS : S w)
 (h : wpAnyH P .any ops Q S fuel (listed.setIfInBounds i true) (a.put oi.dst undef) w) : wpAnyH P .any ops Q S (fuel + 1) listed a w := by
 simp only [mayTake, Bool.and_eq_true] at hm
 exact wpAnyH_take hi hm.1.2 hm.2 hm.1.1 hQ (.inr ⟨hw, rfl⟩) hS h
theorem take_only (i : Nat) {oi : Oper} {fuel : Nat} {listed : Array Bool} {a : Act} {w : World} (hr : Region.ready .any ops listed = [i]) (hi : ops[i]? = some oi)
 (h : ∀ K' : Act → World → Prop, Shut (∀ a w, S w → (S w → wpAnyH P .any ops Q S fuel (listed.setIfInBounds i true) a w) → K' a w) → if Region.wanted oi (yielded ops a.tmps) = true then Oper.wp P oi a w K' Q else K' (a.put oi.dst undef) w) :
 wpAnyH P .any ops Q S (fuel + 1) listed a w :=
 wpAnyH_ready hr (by simp) (AllReadyH.cons hi h AllReadyH.nil)
end
theorem tkm {P : Program} {ops : Array Oper} {Q : Exit → Act → World → Prop} {S : World → Prop} (i : Nat) {d : Option Tmp} {op : Op} {ty : TypeId} {ps : String} {af : Array Edge} {gd : Option (Nat × Bool)} {v : Value} {fuel : Nat} {listed : Array Bool} {a : Act} {w : World} (hi : ops[i]? = some ⟨d, op, ty, ps, af, gd⟩) (hy : ∀ w, S w → (execOp a.eval ⟨d, op, ty, ps, af, gd⟩).run P w = .ok (.value v) w) (h : wpAnyH P .any ops Q S fuel (listed.setIfInBounds i true) (a.put d v) w) (hm : mayTake ops listed i = true := by kernel_rfl) (hw : Region.wanted ⟨d, op, ty, ps, af, gd⟩ (yielded ops a.tmps) = true := by rfl) (hS : S w := by assumption) (hQ : ∀ c a w, Q (.panic c) (a.put d v) w → Q (.panic c) a w := by exact fun _ _ _ h => h) : wpAnyH P .any ops Q S (fuel + 1) listed a w := take_met i hm hi hw hQ hS hy h
open Go.RowKit
def lateB (ops : Array Oper) (n : Nat) (Lt : List Nat) : Bool :=
 Lt.all fun i => decide (i < n) && match ops[i]? with
  | none => false
  | some oi => (oi.after.all fun e => !Region.binds .any e || (decide (e.on < n) && !Lt.contains e.on)) &&
   (List.range ops.size).all fun j => j == i || (decide (j < n) && !Lt.contains j) || match ops[j]? with
    | none => true
    | some oj => oj.after.any (fun e => Region.binds .any e && e.on == i) || oi.apart ops oj
def sinkL (ops : Array Oper) (n : Nat) (Lt : List Nat) : Bool :=
 (List.range n).all fun i => Lt.contains i || (List.range (n + 1)).any fun j => decide (i < j) && !Lt.contains j && Region.waitsFor .any ops j i
def fOkL (ops : Array Oper) (ds : List Tmp) (Lt : List Nat) (m : Nat) : Bool :=
 decide (ds.length < ops.size) && (sinkL ops ds.length Lt && Region.chainB .any ops ds.length) &&
 ((List.range ds.length).all fun i => fDst ops i == ds[i]? && ((ds[i]?).map (fun d => decide (d < m) && ((List.range ds.length).all fun j => j == i || !(ds[j]? == some d)))).getD false) &&
 ((List.range ops.size).all fun i => ((ops[i]?).map (·.after.all fun e => !Region.binds .any e || decide (e.on < i))).getD true) &&
 Region.seqB .any ops (ops.size - ds.length) ds.length (headArr ds.length ops.size) && (lateB ops ds.length Lt && Region.noSelect ops)
theorem tail_waitsL {ops : Array Oper} {n : Nat} {Lt : List Nat} {listed : Array Bool} (hs : sinkL ops n Lt = true) (hc : Region.chainB .any ops n = true) (hn : n < ops.size) (inv : HeadInv .any ops n listed) :
 ∀ (d i : Nat), n - i = d → i < n → i ∉ Lt → listed.getD i true = false → ∀ t, n ≤ t → t ∉ Region.ready .any ops listed := by
 intro d
 induction d using Nat.strongRecOn with
 | _ d ih =>
  intro i hd hi hiL hun t ht hr
  obtain ⟨_, ot, hot, hall⟩ := mem_ready.1 hr
  have htlt : t < ops.size := (Array.getElem?_eq_some_iff.1 hot).1
  by_cases htn : t = n
  ·subst htn
   have h1 := List.all_eq_true.1 hs i (List.mem_range.2 hi)
   simp only [Bool.or_eq_true, List.contains_iff_mem, hiL, false_or] at h1
   obtain ⟨j, hj, hj2⟩ := List.any_eq_true.1 h1
   simp only [Bool.and_eq_true, decide_eq_true_eq, Bool.not_eq_true', List.contains_iff_mem, decide_eq_false_iff_not] at hj2
   obtain ⟨oj, hoj, e, he, hb, hon⟩ := Region.waitsFor_spec hj2.2
   have hjle : j ≤ t := by have := List.mem_range.1 hj; omega
   by_cases hjt : j = t
   ·subst hjt
    have : oj = ot := Option.some.inj (hoj.symm.trans hot)
    subst this
    have h2 := hall e he hb
    rw [hon, getD_both hun] at h2
    cases h2
   ·cases hl : listed.getD j false with
    | true =>
     have h2 := inv.closed j oj hoj hl e he hb
     rw [hon, getD_both hun] at h2
     cases h2
    | false =>
     have hjs : j < listed.size := by rw [inv.size]; omega
     exact ih (t - j) (by omega) j rfl (by omega) (by simpa using hj2.1.2) (getD_in hjs hl) t (Nat.le_refl _) hr
  ·have h1 := List.all_eq_true.1 hc t (List.mem_range.2 htlt)
   simp only [Bool.or_eq_true, decide_eq_true_eq] at h1
   rcases h1 with h1 | h1
   ·omega
   ·obtain ⟨o', ho', e, he, hb, hon⟩ := Region.waitsFor_spec h1
    have : o' = ot := Option.some.inj (ho'.symm.trans hot)
    subst this
    have h2 := hall e he hb
    rw [hon, getD_both (inv.tail (t - 1) (by omega) (by omega))] at h2
    cases h2
section
variable {P : Program} {l : List Oper} {Q : Exit → Act → World → Prop}
def LateAt (P : Program) (ops : Array Oper) (ds : List Tmp) (a0 : Act) (C : World → Prop) (F : Nat → Value → World → Prop) (i : Nat) : Prop :=
 ∀ A w, C w → Off ds a0 A → (∀ j, Region.waitsFor .any ops i j = true → ∀ d, ds[j]? = some d → F j (A.eval (.tmp d)) w) →
  ∃ oi v, ops[i]? = some oi ∧ Yields P ops oi v A ∧ F i v w
theorem facts_late {a0 : Act} {ds : List Tmp} {Lt : List Nat} {C : World → Prop} {F : Nat → Value → World → Prop} (hB : fOkL l.toArray ds Lt a0.tmps.size = true) (hQ : ∀ (d : Tmp) v c a w, Q (.panic c) (a.put (some d) v) w → Q (.panic c) a w)
 (hCE : ∀ w w', C w → Ext w w' → C w') (hFE : ∀ i, i < ds.length → ∀ v w w', F i v w → Ext w w' → F i v w')
 (hH : ∀ i, i < ds.length → HeadAt P l.toArray Q ds a0 C F i) (hLt : ∀ i, i ∈ Lt → LateAt P l.toArray ds a0 C F i)
 (hT : ∀ A w, C w → Off ds a0 A → (∀ i d, ds[i]? = some d → F i (A.eval (.tmp d)) w) → wpList P l.toArray Q (l.drop ds.length) A w) :
 ∀ (m : Nat) (listed : Array Bool) (A : Act) (w : World), HeadInv .any l.toArray ds.length listed → ((List.range ds.length).filter (fun i => !listed.getD i true)).length = m →
  C w → Off ds a0 A → (∀ i d, ds[i]? = some d → listed.getD i false = true → F i (A.eval (.tmp d)) w) → wpAny P .any l.toArray Q (m + (l.toArray.size - ds.length)) listed A w := by
 simp only [fOkL, Bool.and_eq_true, Bool.or_eq_true, decide_eq_true_eq, List.all_eq_true, List.mem_range] at hB
 obtain ⟨⟨⟨⟨⟨hlt0, hsc⟩, hds⟩, hback⟩, hseq⟩, hlate, hns⟩ := hB
 have hle : ds.length ≤ l.toArray.size := Nat.le_of_lt hlt0
 have hdst : ∀ i, i < ds.length → ∃ d, ds[i]? = some d ∧ fDst l.toArray i = some d ∧ d < a0.tmps.size ∧ ∀ j, j ≠ i → ds[j]? ≠ some d := by
  intro i hi
  obtain ⟨h1, h2⟩ := hds i hi
  have hg := List.getElem?_eq_getElem hi
  rw [hg] at h1 h2
  simp only [Option.map_some, Option.getD_some, Bool.and_eq_true, decide_eq_true_eq, List.all_eq_true, List.mem_range, Bool.or_eq_true, beq_iff_eq, Bool.not_eq_true'] at h2
  refine ⟨_, hg, by simpa using h1, h2.1, fun j hj hje => ?_⟩
  have hjl := (List.getElem?_eq_some_iff.1 hje).1
  rcases h2.2 j hjl with h3 | h3
  ·exact hj h3
  ·rw [hje] at h3; simp at h3
 intro m
 induction m with
 | zero =>
  intro listed A w inv hm hC hO hF
  have hall : ∀ i, i < ds.length → listed.getD i true = true := by
   intro i hi
   have : (List.range ds.length).filter (fun i => !listed.getD i true) = [] := List.eq_nil_of_length_eq_zero hm
   have := (List.filter_eq_nil_iff.1 this) i (List.mem_range.2 hi)
   simpa using this
  have he : listed = headArr ds.length l.toArray.size := by
   apply Array.ext
   ·rw [inv.size]; simp [headArr]
   ·intro i h1 h2
    have hi : i < l.toArray.size := by rw [← inv.size]; exact h1
    have gd : ∀ (r : Array Bool) (h : i < r.size), r.getD i true = r[i] := fun r h => by simp [h]
    rw [← gd _ h1, ← gd _ h2, headArr_get, if_pos hi]
    by_cases hn : i < ds.length
    ·rw [hall i hn, decide_eq_true hn]
    ·rw [inv.tail i (by omega) hi, decide_eq_false hn]
  rw [he]
  have hdl : (l.drop ds.length).length = l.toArray.size - ds.length := by simp
  rw [Nat.zero_add, ← hdl]
  refine wpAny_of_seq (l.drop ds.length) ds.length _ A w (fun j => by simp) (by rw [hdl]; exact hseq) (hT A w hC hO fun i d hi => ?_)
  have hil := (List.getElem?_eq_some_iff.1 hi).1
  have hs : i < listed.size := by rw [inv.size]; omega
  have := hall i hil
  exact hF i d hi (by simp [hs] at this ⊢; exact this)
 | succ m ih =>
  intro listed A w inv hm hC hO hF
  -- one that has not come up
  obtain ⟨k0, hk0⟩ : ∃ k, k ∈ (List.range ds.length).filter (fun i => !listed.getD i true) := by
   cases hf : (List.range ds.length).filter (fun i => !listed.getD i true) with
   | nil => rw [hf] at hm; simp at hm
   | cons x r => exact ⟨x, List.mem_cons_self ..⟩
  have hleast : ∀ d k, d = k → k < ds.length → listed.getD k true = false → ∃ i, i ∈ Region.ready .any l.toArray listed := by
   intro d
   induction d using Nat.strongRecOn with
   | _ d ihd =>
    intro k hdk hk hun
    obtain ⟨o, ho⟩ : ∃ o, l.toArray[k]? = some o := ⟨_, Array.getElem?_eq_getElem (by omega)⟩
    by_cases hr : ∀ e ∈ o.after, Region.binds .any e = true → listed.getD e.on false = true
    ·exact ⟨k, mem_ready.2 ⟨hun, o, ho, hr⟩⟩
    ·have hb := hback k (by omega)
     rw [ho] at hb
     simp only [Option.map_some, Option.getD_some, Array.all_eq_true_iff_forall_mem, Bool.or_eq_true, Bool.not_eq_true', decide_eq_true_eq] at hb
     obtain ⟨e, he⟩ := Classical.not_forall.1 hr
     obtain ⟨hem, he⟩ := Classical.not_imp.1 he
     obtain ⟨hbe, he⟩ := Classical.not_imp.1 he
     have hlt : e.on < k := by
      rcases hb e hem with h | h
      ·rw [h] at hbe; cases hbe
      ·exact h
     have hs : e.on < listed.size := by rw [inv.size]; omega
     exact ihd e.on (by omega) e.on rfl (by omega) (getD_in hs (by simpa using he))
  have hclose : ∀ (i : Nat) (hin : i < ds.length) (hi : i ∈ Region.ready .any l.toArray listed) (v : Value) (w' : World), Ext w w' → F i v w' → wpAny P .any l.toArray Q (m + (l.toArray.size - ds.length)) (listed.setIfInBounds i true) (A.put ds[i]? v) w' := by
   intro i hin hi v w' hX hFv
   obtain ⟨hiun, oi, hoi, hiall⟩ := mem_ready.1 hi
   obtain ⟨d, hd, hdo, hdm, hdn⟩ := hdst i hin
   rw [hd]
   have hmem : d ∈ ds := List.mem_of_getElem? hd
   refine ih _ _ _ (inv.set hi hin) ?_ (hCE _ _ hC hX) (hO.put hmem v) fun j dj hdj hjl => ?_
   ·-- one fewer
    have hsz : i < listed.size := by rw [inv.size]; omega
    have : ∀ (r : List Nat), r.Nodup → i ∈ r → (r.filter (fun k => !(listed.setIfInBounds i true).getD k true)).length + 1 = (r.filter (fun k => !listed.getD k true)).length := by
     intro r
     induction r with
     | nil => intro _ h; cases h
     | cons x r ihr =>
      intro hnd hmem
      rw [List.nodup_cons] at hnd
      by_cases hx : x = i
      ·subst hx
       have e : r.filter (fun k => !(listed.setIfInBounds x true).getD k true) = r.filter (fun k => !listed.getD k true) := by
        apply List.filter_congr
        intro y hy
        rw [getD_set_ne true (fun (e : x = y) => hnd.1 (by rw [e]; exact hy))]
       rw [List.filter_cons, List.filter_cons, e]
       have h1 : (listed.setIfInBounds x true).getD x true = true := by simp [hsz]
       rw [h1, hiun]
       simp
      ·have h2 : i ∈ r := by
        rcases List.mem_cons.1 hmem with h | h
        ·exact absurd h.symm hx
        ·exact h
       have h3 := ihr hnd.2 h2
       rw [List.filter_cons, List.filter_cons, getD_set_ne true (fun e => hx e.symm)]
       split
       ·simp only [List.length_cons]; omega
       ·exact h3
    have := this (List.range ds.length) List.nodup_range (List.mem_range.2 hin)
    omega
   ·by_cases hji : j = i
    ·subst hji
     have : dj = d := Option.some.inj (hdj.symm.trans hd)
     subst this
     rw [eval_put_self v (by rw [hO.size]; exact hdm)]
     exact hFv
    ·have hjd : d ≠ dj := fun e => hdn j hji (e ▸ hdj)
     rw [eval_put_other v hjd]
     rw [getD_set_ne false (fun e => hji e.symm)] at hjl
     exact hFE j (List.getElem?_eq_some_iff.1 hdj).1 _ _ _ (hF j dj hdj hjl) hX
  have hdeps : ∀ (i : Nat) (hi : i ∈ Region.ready .any l.toArray listed) (j : Nat), Region.waitsFor .any l.toArray i j = true → ∀ d, ds[j]? = some d → F j (A.eval (.tmp d)) w := by
   intro i hi j hj dj hdj
   obtain ⟨_, oi, hoi, hiall⟩ := mem_ready.1 hi
   obtain ⟨o', ho', e, he, hb, hon⟩ := Region.waitsFor_spec hj
   have : o' = oi := Option.some.inj (ho'.symm.trans hoi)
   subst this
   have := hiall e he hb
   rw [hon] at this
   exact hF j dj hdj this
  rw [show m + 1 + (l.toArray.size - ds.length) = (m + (l.toArray.size - ds.length)) + 1 by omega]
  have hk0' := List.mem_filter.1 hk0
  by_cases hE : ∃ k, k < ds.length ∧ k ∉ Lt ∧ listed.getD k true = false
  ·obtain ⟨k1, hk1, hk1L, hk1u⟩ := hE
   have hne := hleast k1 k1 rfl hk1 hk1u
   refine ⟨fun h0 => (by obtain ⟨i, hi⟩ := hne; rw [h0] at hi; cases hi), fun i hi => ?_⟩
   have hin : i < ds.length := by
    rcases Nat.lt_or_ge i ds.length with h3 | h3
    ·exact h3
    ·exact absurd hi (tail_waitsL hsc.1 hsc.2 hlt0 inv _ k1 rfl hk1 hk1L hk1u i h3)
   refine wpOp_mono ?_ (hH i hin A w hC hO (hdeps i hi))
   rintro A' w' ⟨v, rfl, hX, hFv⟩
   exact hclose i hin hi v w' hX hFv
  ·have hk0r := List.mem_range.1 hk0'.1
   have hk0u : listed.getD k0 true = false := by simpa using hk0'.2
   have hun : ∀ k, k < ds.length → listed.getD k true = false → k ∈ Lt := fun k h1 h2 => Classical.byContradiction fun h3 => hE ⟨k, h1, h3, h2⟩
   have hk0L := hun k0 hk0r hk0u
   simp only [lateB, List.all_eq_true, Bool.and_eq_true, decide_eq_true_eq] at hlate
   obtain ⟨_, hl2⟩ := hlate k0 hk0L
   obtain ⟨oi, hoi⟩ : ∃ o, l.toArray[k0]? = some o := ⟨_, Array.getElem?_eq_getElem (by omega)⟩
   rw [hoi] at hl2
   simp only [Bool.and_eq_true, Array.all_eq_true_iff_forall_mem, List.all_eq_true, List.mem_range] at hl2
   have hrd : k0 ∈ Region.ready .any l.toArray listed := mem_ready.2 ⟨hk0u, oi, hoi, fun e he hb => by
    have h1 := hl2.1 e he
    simp only [Bool.or_eq_true, Bool.not_eq_true', hb, Bool.true_eq_false, false_or, Bool.and_eq_true, decide_eq_true_eq] at h1
    have hs : e.on < listed.size := by rw [inv.size]; omega
    cases hx : listed.getD e.on false with
    | true => rfl
    | false =>
     have h2 := hun e.on h1.1 (getD_in hs hx)
     have h3 := h1.2
     simp [h2] at h3⟩
   obtain ⟨oi', v, hoi', hY, hFv⟩ := hLt k0 hk0L A w hC hO (hdeps k0 hrd)
   obtain rfl : oi' = oi := Option.some.inj (hoi'.symm.trans hoi)
   obtain ⟨d0, hd0, hdo0, _⟩ := hdst k0 hk0r
   have hdd : oi'.dst = ds[k0]? := by
    rw [hd0, ← hdo0]
    simp [fDst, hoi]
   refine wpAny_first hoi (Region.noSelect_spec hns) (fun c a w => by rw [hdd, hd0]; exact hQ d0 v c a w) _ listed A w (fun j oj hj hne hju hno => ?_) hrd hY ?_
   ·have h1 := hl2.2 j (Array.getElem?_eq_some_iff.1 hj).1
    rw [hj] at h1
    simp only [Bool.or_eq_true, beq_iff_eq, hne, false_or, Bool.and_eq_true, decide_eq_true_eq, Bool.not_eq_true'] at h1
    rcases h1 with h1 | h1 | h1
    ·have h2 := hun j h1.1 hju
     have h3 := h1.2
     simp [h2] at h3
    ·obtain ⟨e, he, hb⟩ := Array.any_eq_true'.1 h1
     simp only [Bool.and_eq_true, beq_iff_eq] at hb
     exact absurd hb.2 (hno e he hb.1)
    ·exact h1
   ·rw [hdd]
    exact hclose k0 hk0r hrd v w (Ext.refl w) hFv
theorem wp_region_late {id : Nat} {a0 : Act} {w0 : World} (ds : List Tmp) (is Lt : List Nat) (his : is = List.range ds.length) (C : World → Prop) (F : Nat → Value → World → Prop) (hm : P.follows .mixedOrders = true) (hB : fOkL l.toArray ds Lt a0.tmps.size = true) (hQ : ∀ (d : Tmp) v c a w, Q (.panic c) (a.put (some d) v) w → Q (.panic c) a w)
 (hC0 : C w0.drew) (hCE : ∀ w w', C w → Ext w w' → C w') (hFE : AllOn (fun i => ∀ v w w', F i v w → Ext w w' → F i v w') is)
 (hLt : AllOn (LateAt P l.toArray ds a0 C F) Lt)
 (hH : AllOn (HeadAt P l.toArray Q ds a0 C F) is)
 (hT : ∀ (u : Nat → Value) w, C w → AllOn (fun i => F i (u i) w) is → wpList P l.toArray Q (l.drop ds.length) (fPut ds 0 u a0) w) : (Code.region id l.toArray true).wp P Q a0 w0 := by
 have inv0 : HeadInv .any l.toArray ds.length (Array.replicate l.toArray.size false) :=
  ⟨by simp, fun j oj _ hl => (by rw [getD_replicate_false] at hl; cases hl), fun t _ ht => getD_in (by simpa using ht) (getD_replicate_false _ _)⟩
 have hle : ds.length ≤ l.toArray.size := by
  have := hB
  simp only [fOkL, Bool.and_eq_true, decide_eq_true_eq] at this
  exact Nat.le_of_lt this.1.1.1.1.1
 refine wp_region_any hm ?_
 have H := facts_late (P := P) (Q := Q) (l := l) (a0 := a0) (ds := ds) (Lt := Lt) (C := C) (F := F) hB hQ hCE (fun i hi => hFE.at (by rw [his]; exact List.mem_range.2 hi)) (fun i hi => hH.at (by rw [his]; exact List.mem_range.2 hi)) (fun i hi => hLt.at hi) ?_
  ds.length (Array.replicate l.toArray.size false) a0 w0.drew inv0 ?_ hC0 ⟨rfl, rfl, fun _ _ => rfl⟩ (fun i d _ h => by rw [getD_replicate_false] at h; cases h)
 ·rw [show ds.length + (l.toArray.size - ds.length) = l.toArray.size by omega] at H
  exact H
 ·intro A w hC hO hF
  have hds : ∀ i, i < ds.length → ∃ d, ds[i]? = some d ∧ d < a0.tmps.size ∧ ∀ j, j ≠ i → ds[j]? ≠ some d := by
   simp only [fOkL, Bool.and_eq_true, Bool.or_eq_true, decide_eq_true_eq, List.all_eq_true, List.mem_range] at hB
   intro i hi
   obtain ⟨h1, h2⟩ := hB.1.1.1.2 i hi
   have hg := List.getElem?_eq_getElem hi
   rw [hg] at h1 h2
   simp only [Option.map_some, Option.getD_some, Bool.and_eq_true, decide_eq_true_eq, List.all_eq_true, List.mem_range, Bool.or_eq_true, beq_iff_eq, Bool.not_eq_true'] at h2
   refine ⟨_, hg, h2.1, fun j hj hje => ?_⟩
   have hjl := (List.getElem?_eq_some_iff.1 hje).1
   rcases h2.2 j hjl with h3 | h3
   ·exact hj h3
   ·rw [hje] at h3; simp at h3
  obtain ⟨u, hu⟩ : ∃ u : Nat → Value, ∀ i d, ds[i]? = some d → u i = A.eval (.tmp d) := ⟨fun i => match ds[i]? with | some d => A.eval (.tmp d) | none => undef, fun i d h => by simp only [h]⟩
  have hAe : A = fPut ds 0 u a0 := by
   obtain ⟨s1, s2⟩ := fPut_size ds 0 u a0
   have ht : A.tmps = (fPut ds 0 u a0).tmps := by
    apply Array.ext_getElem?
    intro t
    by_cases hm : t ∈ ds
    ·obtain ⟨i, hi⟩ := List.getElem?_of_mem hm
     obtain ⟨d, hd, hdm, hdn⟩ := hds i (List.getElem?_eq_some_iff.1 hi).1
     have : d = t := Option.some.inj (hd.symm.trans hi)
     subst this
     rw [fPut_in ds 0 u a0 i d hd hdm hdn, Nat.zero_add, hu i d hd]
     have hs : d < A.tmps.size := by rw [hO.size]; exact hdm
     simp [Act.eval, hs]
    ·rw [fPut_out ds 0 u a0 t hm, hO.slot t hm]
   have hdf : A.defers = (fPut ds 0 u a0).defers := by rw [s2, hO.defers]
   cases A with
   | mk tm df =>
    generalize fPut ds 0 u a0 = B at *
    cases B with
    | mk tm2 df2 =>
     simp only at ht hdf
     rw [ht, hdf]
  rw [hAe]
  refine hT u w hC ?_
  refine AllOn.of fun i hi => ?_
  rw [his] at hi
  obtain ⟨d, hd, _⟩ := hds i (List.mem_range.1 hi)
  rw [hu i d hd]
  exact hF i d hd
 ·rw [List.filter_eq_self.2]
  ·exact List.length_range
  ·intro i hi
   have : i < l.toArray.size := by have := List.mem_range.1 hi; omega
   simp [getD_in (by simpa using this) (getD_replicate_false _ _)]
theorem late_val {F : Nat → Value → World → Prop} {ops : Array Oper} {i : Nat} {o : Oper} {A : Act} {w : World} (ho : ops[i]? = some o) (c : Value)
 (hw : Region.wanted o (yielded ops A.tmps) = true) (hr : ∀ w, (execOp A.eval o).run P w = .ok (.value c) w) (hF : F i c w) :
 ∃ oi v, ops[i]? = some oi ∧ Yields P ops oi v A ∧ F i v w := ⟨o, c, ho, .inl ⟨hw, hr⟩, hF⟩
end
end Go.Proofs.YtiacdohaiidehaaGreatDoor
