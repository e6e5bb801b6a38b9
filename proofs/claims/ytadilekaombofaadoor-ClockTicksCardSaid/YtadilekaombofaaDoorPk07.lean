/- General laws, of no program in particular: a region that draws its order, walked once: each operation ahead of the stores is shown by itself, from what those leave for which it waits; what it leaves stays true while memory grows. No condition. -/
import Derived.Test.YtadilekaombofaaDoorPk00
import Derived.StillTail
namespace Go.Proofs.YtadilekaombofaaDoor
set_option linter.unusedSimpArgs false
set_option linter.unusedVariables false
open Go.RowKit
def fDst (ops : Array Oper) (i : Nat) : Option Tmp := (ops[i]?).bind (·.dst)
def fPut : List Tmp → Nat → (Nat → Value) → Act → Act
 | [], _, _, a => a
 | d :: ds, k, u, a => fPut ds (k + 1) u (a.put (some d) (u k))
def headArr (n s : Nat) : Array Bool := ((List.range s).map (fun i => decide (i < n))).toArray
def fOkB (ops : Array Oper) (ds : List Tmp) (m : Nat) : Bool :=
 decide (ds.length ≤ ops.size) && (decide (ds.length = ops.size) || (Region.sinkB .any ops ds.length && Region.chainB .any ops ds.length)) &&
 ((List.range ds.length).all fun i => fDst ops i == ds[i]? && ((ds[i]?).map (fun d => decide (d < m) && ((List.range ds.length).all fun j => j == i || !(ds[j]? == some d)))).getD false) &&
 ((List.range ops.size).all fun i => ((ops[i]?).map (·.after.all fun e => !Region.binds .any e || decide (e.on < i))).getD true) &&
 Region.seqB .any ops (ops.size - ds.length) ds.length (headArr ds.length ops.size)
def AllOn (H : Nat → Prop) : List Nat → Prop
 | [] => True
 | i :: r => H i ∧ AllOn H r
theorem AllOn.nil {H : Nat → Prop} : AllOn H [] := trivial
theorem AllOn.cons {H : Nat → Prop} {i : Nat} {r : List Nat} (h : H i) (hr : AllOn H r) : AllOn H (i :: r) := ⟨h, hr⟩
theorem AllOn.at {H : Nat → Prop} : ∀ {r : List Nat} {i : Nat}, AllOn H r → i ∈ r → H i
 | [], _, _, h => by cases h
 | x :: r, i, h, hm => by
  rcases List.mem_cons.1 hm with e | e
  ·subst e; exact h.1
  ·exact AllOn.at h.2 e
theorem AllOn.of {H : Nat → Prop} : ∀ {r : List Nat}, (∀ i ∈ r, H i) → AllOn H r
 | [], _ => trivial
 | x :: r, h => ⟨h x (List.mem_cons_self ..), AllOn.of fun i hi => h i (List.mem_cons_of_mem _ hi)⟩
def IsV (c : Value) : Value → World → Prop := fun v _ => v = c
theorem IsV.mk {c : Value} {w : World} : IsV c c w := rfl
def fsAt (fs : List (Value → World → Prop)) (i : Nat) : Value → World → Prop := fs.getD i (fun _ _ => True)
structure Off (ds : List Tmp) (a0 A : Act) : Prop where
 defers : A.defers = a0.defers
 size : A.tmps.size = a0.tmps.size
 slot : ∀ t, t ∉ ds → A.tmps[t]? = a0.tmps[t]?
theorem Off.eval {ds : List Tmp} {a0 A : Act} (h : Off ds a0 A) (t : Tmp) (ht : ds.contains t = false) : A.eval (.tmp t) = a0.eval (.tmp t) := by
 have := h.slot t (by simpa using ht)
 simp only [Act.eval, Array.getD_eq_getD_getElem?, this]
theorem Off.put {ds : List Tmp} {a0 A : Act} (h : Off ds a0 A) {d : Tmp} (hd : d ∈ ds) (v : Value) : Off ds a0 (A.put (some d) v) :=
 ⟨h.defers, by simp [Act.put, h.size], fun t ht => by
  have : d ≠ t := fun e => ht (e ▸ hd)
  simp only [Act.put, Array.getElem?_setIfInBounds_ne this]
  exact h.slot t ht⟩
theorem eval_put_self {A : Act} {d : Tmp} (v : Value) (h : d < A.tmps.size) : (A.put (some d) v).eval (.tmp d) = v := by
 simp [Act.put, Act.eval, h]
theorem eval_put_other {A : Act} {d t : Tmp} (v : Value) (h : d ≠ t) : (A.put (some d) v).eval (.tmp t) = A.eval (.tmp t) :=
 Act.eval_put fun e he => by cases he; intro hx; cases hx; exact h rfl
theorem fPut_size : ∀ (ds : List Tmp) (k : Nat) (u : Nat → Value) (a : Act), (fPut ds k u a).tmps.size = a.tmps.size ∧ (fPut ds k u a).defers = a.defers
 | [], _, _, _ => ⟨rfl, rfl⟩
 | d :: ds, k, u, a => by
  obtain ⟨h1, h2⟩ := fPut_size ds (k + 1) u (a.put (some d) (u k))
  rw [fPut]
  exact ⟨by rw [h1]; simp [Act.put], by rw [h2]; rfl⟩
theorem fPut_out : ∀ (ds : List Tmp) (k : Nat) (u : Nat → Value) (a : Act) (t : Tmp), t ∉ ds → (fPut ds k u a).tmps[t]? = a.tmps[t]?
 | [], _, _, _, _, _ => rfl
 | d :: ds, k, u, a, t, h => by
  rw [fPut, fPut_out ds (k + 1) u _ t (fun e => h (List.mem_cons_of_mem _ e))]
  have : d ≠ t := fun e => h (e ▸ List.mem_cons_self ..)
  simp only [Act.put, Array.getElem?_setIfInBounds_ne this]
theorem fPut_in : ∀ (ds : List Tmp) (k : Nat) (u : Nat → Value) (a : Act) (i : Nat) (d : Tmp), ds[i]? = some d → d < a.tmps.size → (∀ j, j ≠ i → ds[j]? ≠ some d) → (fPut ds k u a).tmps[d]? = some (u (k + i))
 | [], _, _, _, _, _, h, _, _ => by simp at h
 | e :: ds, k, u, a, 0, d, h, hs, hn => by
  simp at h
  subst h
  rw [fPut, fPut_out ds _ _ _ _ (fun hm => by obtain ⟨j, hj⟩ := List.getElem?_of_mem hm; exact hn (j + 1) (by omega) (by simpa using hj))]
  simp [Act.put, hs]
 | e :: ds, k, u, a, i + 1, d, h, hs, hn => by
  simp at h
  rw [fPut, fPut_in ds (k + 1) u _ i d h (by simpa [Act.put] using hs) (fun j hj => by have := hn (j + 1) (by omega); simpa using this)]
  congr 2
  omega
section
variable {P : Program} {l : List Oper} {Q : Exit → Act → World → Prop}
def HeadAt (P : Program) (ops : Array Oper) (Q : Exit → Act → World → Prop) (ds : List Tmp) (a0 : Act) (C : World → Prop) (F : Nat → Value → World → Prop) (i : Nat) : Prop :=
 ∀ A w, C w → Off ds a0 A → (∀ j, Region.waitsFor .any ops i j = true → ∀ d, ds[j]? = some d → F j (A.eval (.tmp d)) w) →
  wpOp P ops Q i (fun A' w' => ∃ v, A' = A.put ds[i]? v ∧ Ext w w' ∧ F i v w') A w
theorem headArr_get (n s i : Nat) (d : Bool) : (headArr n s).getD i d = if i < s then decide (i < n) else d := by
 unfold headArr
 by_cases h : i < s
 ·rw [if_pos h]; simp [h]
 ·rw [if_neg h]; simp [h]
theorem facts_any {a0 : Act} {ds : List Tmp} {C : World → Prop} {F : Nat → Value → World → Prop} (hB : fOkB l.toArray ds a0.tmps.size = true)
 (hCE : ∀ w w', C w → Ext w w' → C w') (hFE : ∀ i, i < ds.length → ∀ v w w', F i v w → Ext w w' → F i v w')
 (hH : ∀ i, i < ds.length → HeadAt P l.toArray Q ds a0 C F i)
 (hT : ∀ A w, C w → Off ds a0 A → (∀ i d, ds[i]? = some d → F i (A.eval (.tmp d)) w) → wpList P l.toArray Q (l.drop ds.length) A w) :
 ∀ (m : Nat) (listed : Array Bool) (A : Act) (w : World), HeadInv .any l.toArray ds.length listed → ((List.range ds.length).filter (fun i => !listed.getD i true)).length = m →
  C w → Off ds a0 A → (∀ i d, ds[i]? = some d → listed.getD i false = true → F i (A.eval (.tmp d)) w) → wpAny P .any l.toArray Q (m + (l.toArray.size - ds.length)) listed A w := by
 simp only [fOkB, Bool.and_eq_true, Bool.or_eq_true, decide_eq_true_eq, List.all_eq_true, List.mem_range] at hB
 obtain ⟨⟨⟨⟨hle, hsc⟩, hds⟩, hback⟩, hseq⟩ := hB
 have hdst : ∀ i, i < ds.length → ∃ d, ds[i]? = some d ∧ fDst l.toArray i = some d ∧ d < a0.tmps.size ∧ ∀ j, j ≠ i → ds[j]? ≠ some d := by
  intro i hi
  obtain ⟨h1, h2⟩ := hds i hi
  have hg := List.getElem?_eq_getElem hi
  rw [hg] at h1 h2
  simp only [Option.map_some, Option.getD_some, Bool.and_eq_true, decide_eq_true_eq, List.all_eq_true, List.mem_range, Bool.or_eq_true, beq_iff_eq, Bool.not_eq_true'] at h2
  refine ⟨_, hg, by simpa using h1, h2.1, fun j hj hje => ?_⟩
  have hjl := (List.getElem?_eq_some_iff.1 hje).1
  rcases h2.2 j hjl with h3 | h3
  ·exact hj h3
  ·rw [hje] at h3; simp at h3
 intro m
 induction m with
 | zero =>
  intro listed A w inv hm hC hO hF
  have hall : ∀ i, i < ds.length → listed.getD i true = true := by
   intro i hi
   have : (List.range ds.length).filter (fun i => !listed.getD i true) = [] := List.eq_nil_of_length_eq_zero hm
   have := (List.filter_eq_nil_iff.1 this) i (List.mem_range.2 hi)
   simpa using this
  have he : listed = headArr ds.length l.toArray.size := by
   apply Array.ext
   ·rw [inv.size]; simp [headArr]
   ·intro i h1 h2
    have hi : i < l.toArray.size := by rw [← inv.size]; exact h1
    have gd : ∀ (r : Array Bool) (h : i < r.size), r.getD i true = r[i] := fun r h => by simp [h]
    rw [← gd _ h1, ← gd _ h2, headArr_get, if_pos hi]
    by_cases hn : i < ds.length
    ·rw [hall i hn, decide_eq_true hn]
    ·rw [inv.tail i (by omega) hi, decide_eq_false hn]
  rw [he]
  have hdl : (l.drop ds.length).length = l.toArray.size - ds.length := by simp
  rw [Nat.zero_add, ← hdl]
  refine wpAny_of_seq (l.drop ds.length) ds.length _ A w (fun j => by simp) (by rw [hdl]; exact hseq) (hT A w hC hO fun i d hi => ?_)
  have hil := (List.getElem?_eq_some_iff.1 hi).1
  have hs : i < listed.size := by rw [inv.size]; omega
  have := hall i hil
  exact hF i d hi (by simp [hs] at this ⊢; exact this)
 | succ m ih =>
  intro listed A w inv hm hC hO hF
  -- one that has not come up
  obtain ⟨k0, hk0⟩ : ∃ k, k ∈ (List.range ds.length).filter (fun i => !listed.getD i true) := by
   cases hf : (List.range ds.length).filter (fun i => !listed.getD i true) with
   | nil => rw [hf] at hm; simp at hm
   | cons x r => exact ⟨x, List.mem_cons_self ..⟩
  have hleast : ∀ d k, d = k → k < ds.length → listed.getD k true = false → ∃ i, i ∈ Region.ready .any l.toArray listed := by
   intro d
   induction d using Nat.strongRecOn with
   | _ d ihd =>
    intro k hdk hk hun
    obtain ⟨o, ho⟩ : ∃ o, l.toArray[k]? = some o := ⟨_, Array.getElem?_eq_getElem (by omega)⟩
    by_cases hr : ∀ e ∈ o.after, Region.binds .any e = true → listed.getD e.on false = true
    ·exact ⟨k, mem_ready.2 ⟨hun, o, ho, hr⟩⟩
    ·have hb := hback k (by omega)
     rw [ho] at hb
     simp only [Option.map_some, Option.getD_some, Array.all_eq_true_iff_forall_mem, Bool.or_eq_true, Bool.not_eq_true', decide_eq_true_eq] at hb
     obtain ⟨e, he⟩ := Classical.not_forall.1 hr
     obtain ⟨hem, he⟩ := Classical.not_imp.1 he
     obtain ⟨hbe, he⟩ := Classical.not_imp.1 he
     have hlt : e.on < k := by
      rcases hb e hem with h | h
      ·rw [h] at hbe; cases hbe
      ·exact h
     have hs : e.on < listed.size := by rw [inv.size]; omega
     exact ihd e.on (by omega) e.on rfl (by omega) (getD_in hs (by simpa using he))
  have hk0' := List.mem_filter.1 hk0
  have hne := hleast k0 k0 rfl (List.mem_range.1 hk0'.1) (by simpa using hk0'.2)
  rw [show m + 1 + (l.toArray.size - ds.length) = (m + (l.toArray.size - ds.length)) + 1 by omega]
  refine ⟨fun h0 => (by obtain ⟨i, hi⟩ := hne; rw [h0] at hi; cases hi), fun i hi => ?_⟩
  have hin : i < ds.length := by
   rcases hsc with h | ⟨h1, h2⟩
   ·obtain ⟨_, o, ho, _⟩ := mem_ready.1 hi
    rw [h]; exact (Array.getElem?_eq_some_iff.1 ho).1
   ·by_cases hlt : ds.length < l.toArray.size
    ·rcases Nat.lt_or_ge i ds.length with h3 | h3
     ·exact h3
     ·exact absurd hi (tail_waits h1 h2 hlt inv _ k0 rfl (List.mem_range.1 hk0'.1) (by simpa using hk0'.2) i h3)
    ·obtain ⟨_, o, ho, _⟩ := mem_ready.1 hi
     have := (Array.getElem?_eq_some_iff.1 ho).1
     omega
  obtain ⟨hiun, oi, hoi, hiall⟩ := mem_ready.1 hi
  obtain ⟨d, hd, hdo, hdm, hdn⟩ := hdst i hin
  refine wpOp_mono ?_ (hH i hin A w hC hO fun j hj dj hdj => ?_)
  ·rintro A' w' ⟨v, rfl, hX, hFv⟩
   rw [hd]
   have hmem : d ∈ ds := List.mem_of_getElem? hd
   refine ih _ _ _ (inv.set hi hin) ?_ (hCE _ _ hC hX) (hO.put hmem v) fun j dj hdj hjl => ?_
   ·-- one fewer
    have hsz : i < listed.size := by rw [inv.size]; omega
    have : ∀ (r : List Nat), r.Nodup → i ∈ r → (r.filter (fun k => !(listed.setIfInBounds i true).getD k true)).length + 1 = (r.filter (fun k => !listed.getD k true)).length := by
     intro r
     induction r with
     | nil => intro _ h; cases h
     | cons x r ihr =>
      intro hnd hmem
      rw [List.nodup_cons] at hnd
      by_cases hx : x = i
      ·subst hx
       have e : r.filter (fun k => !(listed.setIfInBounds x true).getD k true) = r.filter (fun k => !listed.getD k true) := by
        apply List.filter_congr
        intro y hy
        rw [getD_set_ne true (fun (e : x = y) => hnd.1 (by rw [e]; exact hy))]
       rw [List.filter_cons, List.filter_cons, e]
       have h1 : (listed.setIfInBounds x true).getD x true = true := by simp [hsz]
       rw [h1, hiun]
       simp
      ·have h2 : i ∈ r := by
        rcases List.mem_cons.1 hmem with h | h
        ·exact absurd h.symm hx
        ·exact h
       have h3 := ihr hnd.2 h2
       rw [List.filter_cons, List.filter_cons, getD_set_ne true (fun e => hx e.symm)]
       split
       ·simp only [List.length_cons]; omega
       ·exact h3
    have := this (List.range ds.length) List.nodup_range (List.mem_range.2 hin)
    omega
   ·by_cases hji : j = i
    ·subst hji
     have : dj = d := Option.some.inj (hdj.symm.trans hd)
     subst this
     rw [eval_put_self v (by rw [hO.size]; exact hdm)]
     exact hFv
    ·have hjd : d ≠ dj := fun e => hdn j hji (e ▸ hdj)
     rw [eval_put_other v hjd]
     rw [getD_set_ne false (fun e => hji e.symm)] at hjl
     exact hFE j (List.getElem?_eq_some_iff.1 hdj).1 _ _ _ (hF j dj hdj hjl) hX
  ·obtain ⟨o', ho', e, he, hb, hon⟩ := Region.waitsFor_spec hj
   have : o' = oi := Option.some.inj (ho'.symm.trans hoi)
   subst this
   have := hiall e he hb
   rw [hon] at this
   exact hF j dj hdj this
theorem ev_tm (A : Act) (t : Tmp) : A.eval (.tmp t) = A.tmps[t]?.getD undef := by simp [Act.eval]
theorem evD {A : Act} {t : Tmp} {v : Value} (h : A.eval (.tmp t) = v) : A.tmps[t]?.getD undef = v := (ev_tm A t).symm.trans h
theorem evO {ds : List Tmp} {a0 A : Act} (h : Off ds a0 A) (t : Tmp) (ht : ds.contains t = false) : A.tmps[t]?.getD undef = a0.eval (.tmp t) := (ev_tm A t).symm.trans (h.eval t ht)
theorem wp_region_facts {id : Nat} {a0 : Act} {w0 : World} (ds : List Tmp) (is : List Nat) (his : is = List.range ds.length) (C : World → Prop) (F : Nat → Value → World → Prop) (hm : P.follows .mixedOrders = true) (hB : fOkB l.toArray ds a0.tmps.size = true)
 (hC0 : C w0.drew) (hCE : ∀ w w', C w → Ext w w' → C w') (hFE : AllOn (fun i => ∀ v w w', F i v w → Ext w w' → F i v w') is)
 (hH : AllOn (HeadAt P l.toArray Q ds a0 C F) is)
 (hT : ∀ (u : Nat → Value) w, C w → AllOn (fun i => F i (u i) w) is → wpList P l.toArray Q (l.drop ds.length) (fPut ds 0 u a0) w) : (Code.region id l.toArray true).wp P Q a0 w0 := by
 have inv0 : HeadInv .any l.toArray ds.length (Array.replicate l.toArray.size false) :=
  ⟨by simp, fun j oj _ hl => (by rw [getD_replicate_false] at hl; cases hl), fun t _ ht => getD_in (by simpa using ht) (getD_replicate_false _ _)⟩
 have hle : ds.length ≤ l.toArray.size := by
  have := hB
  simp only [fOkB, Bool.and_eq_true, decide_eq_true_eq] at this
  exact this.1.1.1.1
 refine wp_region_any hm ?_
 have H := facts_any (P := P) (Q := Q) (l := l) (a0 := a0) (ds := ds) (C := C) (F := F) hB hCE (fun i hi => hFE.at (by rw [his]; exact List.mem_range.2 hi)) (fun i hi => hH.at (by rw [his]; exact List.mem_range.2 hi)) ?_
  ds.length (Array.replicate l.toArray.size false) a0 w0.drew inv0 ?_ hC0 ⟨rfl, rfl, fun _ _ => rfl⟩ (fun i d _ h => by rw [getD_replicate_false] at h; cases h)
 ·rw [show ds.length + (l.toArray.size - ds.length) = l.toArray.size by omega] at H
  exact H
 ·intro A w hC hO hF
  have hds : ∀ i, i < ds.length → ∃ d, ds[i]? = some d ∧ d < a0.tmps.size ∧ ∀ j, j ≠ i → ds[j]? ≠ some d := by
   simp only [fOkB, Bool.and_eq_true, Bool.or_eq_true, decide_eq_true_eq, List.all_eq_true, List.mem_range] at hB
   intro i hi
   obtain ⟨h1, h2⟩ := hB.1.1.2 i hi
   have hg := List.getElem?_eq_getElem hi
   rw [hg] at h1 h2
   simp only [Option.map_some, Option.getD_some, Bool.and_eq_true, decide_eq_true_eq, List.all_eq_true, List.mem_range, Bool.or_eq_true, beq_iff_eq, Bool.not_eq_true'] at h2
   refine ⟨_, hg, h2.1, fun j hj hje => ?_⟩
   have hjl := (List.getElem?_eq_some_iff.1 hje).1
   rcases h2.2 j hjl with h3 | h3
   ·exact hj h3
   ·rw [hje] at h3; simp at h3
  obtain ⟨u, hu⟩ : ∃ u : Nat → Value, ∀ i d, ds[i]? = some d → u i = A.eval (.tmp d) := ⟨fun i => match ds[i]? with | some d => A.eval (.tmp d) | none => undef, fun i d h => by simp only [h]⟩
  have hAe : A = fPut ds 0 u a0 := by
   obtain ⟨s1, s2⟩ := fPut_size ds 0 u a0
   have ht : A.tmps = (fPut ds 0 u a0).tmps := by
    apply Array.ext_getElem?
    intro t
    by_cases hm : t ∈ ds
    ·obtain ⟨i, hi⟩ := List.getElem?_of_mem hm
     obtain ⟨d, hd, hdm, hdn⟩ := hds i (List.getElem?_eq_some_iff.1 hi).1
     have : d = t := Option.some.inj (hd.symm.trans hi)
     subst this
     rw [fPut_in ds 0 u a0 i d hd hdm hdn, Nat.zero_add, hu i d hd]
     have hs : d < A.tmps.size := by rw [hO.size]; exact hdm
     simp [Act.eval, hs]
    ·rw [fPut_out ds 0 u a0 t hm, hO.slot t hm]
   have hdf : A.defers = (fPut ds 0 u a0).defers := by rw [s2, hO.defers]
   cases A with
   | mk tm df =>
    generalize fPut ds 0 u a0 = B at *
    cases B with
    | mk tm2 df2 =>
     simp only at ht hdf
     rw [ht, hdf]
  rw [hAe]
  refine hT u w hC ?_
  refine AllOn.of fun i hi => ?_
  rw [his] at hi
  obtain ⟨d, hd, _⟩ := hds i (List.mem_range.1 hi)
  rw [hu i d hd]
  exact hF i d hd
 ·rw [List.filter_eq_self.2]
  ·exact List.length_range
  ·intro i hi
   have : i < l.toArray.size := by have := List.mem_range.1 hi; omega
   simp [getD_in (by simpa using this) (getD_replicate_false _ _)]
theorem head_val {ds : List Tmp} {F : Nat → Value → World → Prop} {ops : Array Oper} {i : Nat} {o : Oper} {A : Act} {w : World} (ho : ops[i]? = some o) (c : Value)
 (hw : Region.wanted o (yielded ops A.tmps) = true) (hd : ds[i]? = o.dst) (hr : (execOp A.eval o).run P w = .ok (.value c) w) (hF : F i c w) :
 wpOp P ops Q i (fun A' w' => ∃ v, A' = A.put ds[i]? v ∧ Ext w w' ∧ F i v w') A w := by
 unfold wpOp
 simp only [ho, hw, if_true, Oper.wp, hr, Oper.upon]
 exact .inl ⟨c, by rw [hd], Ext.refl w, hF⟩
theorem head_wp {ds : List Tmp} {F : Nat → Value → World → Prop} {ops : Array Oper} {i : Nat} {o : Oper} {A : Act} {w : World} (ho : ops[i]? = some o)
 (hw : Region.wanted o (yielded ops A.tmps) = true) (h : Oper.wp P o A w (fun A' w' => ∃ v, A' = A.put ds[i]? v ∧ Ext w w' ∧ F i v w') Q) :
 wpOp P ops Q i (fun A' w' => ∃ v, A' = A.put ds[i]? v ∧ Ext w w' ∧ F i v w') A w := by
 unfold wpOp
 simp only [ho, hw, if_true]
 exact .inl h
end
end Go.Proofs.YtadilekaombofaaDoor
