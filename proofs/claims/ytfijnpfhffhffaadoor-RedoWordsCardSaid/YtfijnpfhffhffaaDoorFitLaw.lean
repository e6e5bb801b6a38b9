/- Plain: the reference's Right, and the code's checks of entries. -/
import Derived.Test.YtfijnpfhffhffaaDoorDescB
import Derived.Test.YtfijnpfhffhffaaDoorRefA
namespace Go.Proofs.YtfijnpfhffhffaaDoor
set_option linter.unusedSimpArgs false
set_option linter.unusedVariables false
open Go.RowKit

def incP (q : Option En) : List En → Prop
  | [] => True
  | e :: r => (∀ y, q = some y → y.loc < e.loc) ∧ incP (some e) r
def ndecP (q : Option En) : List En → Prop
  | [] => True
  | e :: r => (∀ y, q = some y → y.loc ≤ e.loc) ∧ ndecP (some e) r
def nodP (pre : List En) : List En → Prop
  | [] => True
  | e :: r => pre.any (fun y => y.loc == e.loc) = false ∧ nodP (pre ++ [e]) r

theorem rbad_iff (q : Option En) (e : En) : rbadB q e = false ↔ wrongN e = 0 ∧ ∀ y, q = some y → y.loc < e.loc := by
  obtain ⟨l, v, ve, re, ne, wr⟩ := e
  cases q with
  | none => 
    unfold rbadB wrongN
    cases wr <;> by_cases h1 : l < 0 <;> by_cases h2 : 4096 ≤ l <;> by_cases h3 : re = 0 <;> by_cases h4 : ve = 4294967295 <;> by_cases h5 : ne = v <;> simp [h1, h2, h3, h4, h5]
  | some y =>
    unfold rbadB wrongN
    by_cases h6 : l ≤ y.loc
    · have h7 : ¬ y.loc < l := by omega
      cases wr <;> by_cases h1 : l < 0 <;> by_cases h2 : 4096 ≤ l <;> by_cases h3 : re = 0 <;> by_cases h4 : ve = 4294967295 <;> by_cases h5 : ne = v <;> simp [h1, h2, h3, h4, h5, h6, h7]
    · have h7 : y.loc < l := by omega
      cases wr <;> by_cases h1 : l < 0 <;> by_cases h2 : 4096 ≤ l <;> by_cases h3 : re = 0 <;> by_cases h4 : ve = 4294967295 <;> by_cases h5 : ne = v <;> simp [h1, h2, h3, h4, h5, h6, h7]
theorem rightGo_iff : ∀ (l : List En) (q : Option En), rightGo q l = true ↔ (∀ x ∈ l, wrongN x = 0) ∧ incP q l
  | [], q => by simp [rightGo, incP]
  | e :: r, q => by
    have hb := rbad_iff q e
    have ih := rightGo_iff r (some e)
    simp only [rightGo, Bool.and_eq_true, Bool.not_eq_true', hb, ih, incP, List.mem_cons, forall_eq_or_imp]
    constructor
    · rintro ⟨⟨a, b⟩, c, d⟩; exact ⟨⟨a, c⟩, b, d⟩
    · rintro ⟨⟨a, c⟩, b, d⟩; exact ⟨⟨a, b⟩, c, d⟩
theorem checkGo_iff : ∀ (l pre : List En), checkGo pre l = 0 ↔ (∀ x ∈ l, wrongN x = 0) ∧ nodP pre l
  | [], pre => by simp [checkGo, nodP]
  | e :: r, pre => by
    have ih := checkGo_iff r (pre ++ [e])
    unfold checkGo
    by_cases hw : wrongN e = 0
    · rw [if_neg (by simpa using hw)]
      cases ha : pre.any (fun y => y.loc == e.loc)
      · simp only [Bool.false_eq_true, if_false, ih, nodP, ha, List.mem_cons, forall_eq_or_imp, true_and, hw]
      · simp [nodP, ha]
    · rw [if_pos hw]
      simp [hw]
theorem inc_iff : ∀ (l pre : List En) (q : Option En), (∀ y, q = some y → y ∈ pre ∧ ∀ x ∈ pre, x.loc ≤ y.loc) → (q = none → pre = []) → (incP q l ↔ ndecP q l ∧ nodP pre l)
  | [], pre, q, _, _ => by simp [incP, ndecP, nodP]
  | e :: r, pre, q, h1, h2 => by
    have hnew : (∀ y, q = some y → y.loc ≤ e.loc) → ∀ x ∈ pre, x.loc ≤ e.loc := by
      intro h x hx
      cases q with
      | none => rw [h2 rfl] at hx; simp at hx
      | some y => have := (h1 y rfl).2 x hx; have := h y rfl; omega
    have step : (∀ y, q = some y → y.loc ≤ e.loc) → (incP (some e) r ↔ ndecP (some e) r ∧ nodP (pre ++ [e]) r) := by
      intro h
      refine inc_iff r (pre ++ [e]) (some e) ?_ (fun h => by cases h)
      rintro y ⟨⟩
      refine ⟨by simp, fun x hx => ?_⟩
      rcases List.mem_append.1 hx with hx | hx
      · exact hnew h x hx
      · rw [List.mem_singleton] at hx; subst hx; exact Int.le_refl _
    simp only [incP, ndecP, nodP]
    constructor
    · rintro ⟨a, b⟩
      have ha : ∀ y, q = some y → y.loc ≤ e.loc := fun y hy => by have := a y hy; omega
      obtain ⟨c, d⟩ := (step ha).1 b
      refine ⟨⟨ha, c⟩, ?_, d⟩
      rw [List.any_eq_false]
      intro x hx
      cases q with
      | none => rw [h2 rfl] at hx; simp at hx
      | some y => have := (h1 y rfl).2 x hx; have := a y rfl; simp; omega
    · rintro ⟨⟨a, c⟩, b, d⟩
      refine ⟨fun y hy => ?_, (step a).2 ⟨c, d⟩⟩
      have h3 := a y hy
      have h4 := List.any_eq_false.1 b y (h1 y hy).1
      simp at h4
      omega
theorem ndec_iff : ∀ (l : List En) (q : Option En), ndecP q l ↔ (∀ y, q = some y → ∀ x, l[0]? = some x → y.loc ≤ x.loc) ∧ ∀ k a b, l[k]? = some b → l[k + 1]? = some a → b.loc ≤ a.loc
  | [], q => by simp [ndecP]
  | e :: r, q => by
    rw [ndecP, ndec_iff r (some e)]
    constructor
    · rintro ⟨a, b, c⟩
      refine ⟨fun y hy x hx => by simp at hx; subst hx; exact a y hy, fun k u v hv hu => ?_⟩
      cases k with
      | zero => simp at hv hu; subst hv; exact b _ rfl u (by simpa using hu)
      | succ k => exact c k u v (by simpa using hv) (by simpa using hu)
    · rintro ⟨a, c⟩
      exact ⟨fun y hy => a y hy e rfl, fun y hy x hx => by cases hy; exact c 0 x e rfl (by simpa using hx), fun k u v hv hu => c (k + 1) u v (by simpa using hv) (by simpa using hu)⟩
theorem sortTo_iff (es : List En) : ∀ k, k < es.length → (sortTo es k = true ↔ ∀ i, i < k → ∀ a b, es[i]? = some b → es[i + 1]? = some a → b.loc ≤ a.loc)
  | 0, _ => by simp [sortTo]
  | k + 1, h => by
    have ha := List.getElem?_eq_getElem h
    have hb := List.getElem?_eq_getElem (show k < es.length by omega)
    rw [sortTo_at ha hb, Bool.and_eq_true, decide_eq_true_eq, sortTo_iff es k (by omega)]
    constructor
    · rintro ⟨h1, h2⟩ i hi a b hib hia
      by_cases hik : i = k
      · subst hik
        rw [hb] at hib
        rw [ha] at hia
        cases hib
        cases hia
        exact h1
      · exact h2 i (by omega) a b hib hia
    · intro h1
      exact ⟨h1 k (by omega) _ _ hb ha, fun i hi a b hib hia => h1 i (by omega) a b hib hia⟩
theorem sortB_iff (es : List En) : sortB es = true ↔ ndecP none es := by
  rw [ndec_iff]
  by_cases h0 : es.length = 0
  · have : es = [] := List.length_eq_zero_iff.1 h0
    subst this
    simp [sortB, sortTo]
  · unfold sortB
    rw [sortTo_iff es _ (by omega)]
    constructor
    · intro h
      refine ⟨by simp, fun k a b hb ha => h k ?_ a b hb ha⟩
      have := (List.getElem?_eq_some_iff.1 ha).1
      omega
    · rintro ⟨_, h⟩ i _ a b hb ha
      exact h i a b hb ha
theorem right_iff (es : List En) : rightB es = true ↔ checkE es = 0 ∧ sortB es = true := by
  unfold rightB
  rw [Bool.and_eq_true, decide_eq_true_eq, rightGo_iff, inc_iff es [] none (by simp) (fun _ => rfl), sortB_iff]
  unfold checkE
  by_cases h0 : es.length = 0
  · simp [h0]
  · by_cases h1 : 32 < es.length
    · have h2 : ¬ es.length ≤ 32 := by omega
      simp [h0, h1, h2]
    · rw [if_neg h0, if_neg h1, checkGo_iff]
      constructor
      · rintro ⟨⟨a, b, c⟩, _⟩; exact ⟨⟨a, c⟩, b⟩
      · rintro ⟨⟨a, c⟩, b⟩; exact ⟨⟨a, b, c⟩, by omega, by omega⟩

end Go.Proofs.YtfijnpfhffhffaaDoor
