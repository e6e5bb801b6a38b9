/- Plain laws of swaps: no program in sight. -/
import Derived.Test.YtdodipejckigoaaLawM
namespace Go.Proofs.Ytdodipejckigoaa
open Go.RowKit

theorem checkGo_pw : ∀ (l pre : List En), checkGo pre l = 0 → (∀ x ∈ l, wrongN x = 0 ∧ ∀ y ∈ pre, y.loc ≠ x.loc) ∧ l.Pairwise (fun a b => a.loc ≠ b.loc)
  | [], _, _ => ⟨by simp, List.Pairwise.nil⟩
  | x :: r, pre, h => by
    unfold checkGo at h
    split at h
    · rename_i hw; exact absurd h hw
    · rename_i hw
      split at h
      · cases h
      · rename_i ha
        obtain ⟨h1, h2⟩ := checkGo_pw r (pre ++ [x]) h
        refine ⟨?_, List.pairwise_cons.2 ⟨fun y hy => (h1 y hy).2 x (by simp), h2⟩⟩
        intro y hy
        rcases List.mem_cons.1 hy with rfl | hy
        · refine ⟨by simpa using hw, fun z hz hzy => ha ?_⟩
          exact List.any_eq_true.2 ⟨z, hz, by simpa using hzy⟩
        · exact ⟨(h1 y hy).1, fun z hz => (h1 y hy).2 z (List.mem_append_left _ hz)⟩
theorem checkE_pw {l : List En} (h : checkE l = 0) : l.Pairwise (fun a b => a.loc ≠ b.loc) := by
  unfold checkE at h
  split at h
  · cases h
  · split at h
    · cases h
    · exact (checkGo_pw l [] h).2
theorem pw_ne {l : List En} (h : l.Pairwise (fun a b => a.loc ≠ b.loc)) {a b : En} (ha : a ∈ l) (hb : b ∈ l) (hab : a.wr ≠ b.wr) : a.loc ≠ b.loc := by
  induction l with
  | nil => simp at ha
  | cons x r ih =>
    obtain ⟨h1, h2⟩ := List.pairwise_cons.1 h
    rcases List.mem_cons.1 ha with rfl | ha' <;> rcases List.mem_cons.1 hb with rfl | hb'
    · exact absurd rfl hab
    · exact h1 _ hb'
    · exact fun hh => h1 _ ha' hh.symm
    · exact ih h2 ha' hb'

theorem setW_other {l : List Wd} {e : En} {k : Nat} (h : e.wr = true → e.loc.toNat ≠ k) : (setW l e)[k]? = l[k]? := by
  unfold setW
  split
  · rename_i hw; exact List.getElem?_set_ne (h hw)
  · rfl
theorem setL_other {k : Nat} : ∀ (es : List En) (l : List Wd), (∀ y ∈ es, y.wr = true → y.loc.toNat ≠ k) → (setL l es)[k]? = l[k]?
  | [], _, _ => rfl
  | x :: r, l, h => by
    show (setL (setW l x) r)[k]? = _
    rw [setL_other r (setW l x) (fun y hy => h y (List.mem_cons_of_mem _ hy)), setW_other (h x (List.mem_cons_self ..))]
theorem setL_wr : ∀ (es : List En) (l : List Wd), es.Pairwise (fun a b => a.loc ≠ b.loc) → (∀ y ∈ es, ∃ k : Nat, y.loc = (k : Int) ∧ k < l.length) → ∀ e ∈ es, e.wr = true → (setL l es)[e.loc.toNat]? = some (e.new, (e.ver + 1) % 4294967296, 0)
  | [], _, _, _, e, he, _ => by simp at he
  | x :: r, l, hp, hb, e, he, hw => by
    obtain ⟨h1, h2⟩ := List.pairwise_cons.1 hp
    show (setL (setW l x) r)[e.loc.toNat]? = _
    rcases List.mem_cons.1 he with rfl | he'
    · obtain ⟨k, hk, hkl⟩ := hb e (List.mem_cons_self ..)
      rw [setL_other r _ (fun y hy _ => by
        obtain ⟨k2, hk2, _⟩ := hb y (List.mem_cons_of_mem _ hy)
        have := h1 y hy
        omega)]
      unfold setW
      rw [if_pos hw, List.getElem?_set_self (by omega)]
    · exact setL_wr r (setW l x) h2 (fun y hy => by rw [setW_len]; exact hb y (List.mem_cons_of_mem _ hy)) e he' hw
theorem setL_nowr : ∀ (es : List En) (l : List Wd), es.any (fun e => e.wr) = false → setL l es = l
  | [], _, _ => rfl
  | x :: r, l, h => by
    simp only [List.any_cons, Bool.or_eq_false_iff] at h
    show setL (setW l x) r = l
    have : setW l x = l := by unfold setW; rw [if_neg (by rw [h.1]; simp)]
    rw [this, setL_nowr r l h.2]

theorem atW_get {l : List Wd} {k : Nat} {y : Wd} (h : l[k]? = some y) : atW l k = (y, true) := by
  unfold atW; simp [h]
theorem atW_congr {l l' : List Wd} {k : Nat} (h : l[k]? = l'[k]?) : atW l k = atW l' k := by
  unfold atW; simp [h]
theorem atW_snd (l : List Wd) (x : Int) : (atW l x).2 = decide (0 ≤ x ∧ x < (l.length : Int)) := by
  unfold atW
  split
  · rename_i h0
    by_cases hk : x.toNat < l.length
    · rw [List.getElem?_eq_getElem hk]; exact (decide_eq_true ⟨h0, by omega⟩).symm
    · rw [List.getElem?_eq_none (by omega)]; exact (decide_eq_false (by omega)).symm
  · exact (decide_eq_false (by omega)).symm
theorem hasB_len {l l' : List Wd} (h : l.length = l'.length) (es : List En) : hasB l es = hasB l' es := by
  unfold hasB; simp only [atW_snd, h]

theorem met_wr {l : List Wd} {es : List En} (h0 : checkE es = 0) (h1 : hasB l es = true) {e : En} (he : e ∈ es) (hw : e.wr = true) : met (setL l es) e = false := by
  have h2 := setL_wr es l (checkE_pw h0) (fun y hy => hasB_in h1 hy) e he hw
  obtain ⟨k, hk, _⟩ := hasB_in h1 he
  rw [hk, Int.toNat_natCast] at h2
  unfold met
  rw [hk, atW_get h2]
  have hne : wdB (e.new, (e.ver + 1) % 4294967296, 0) (e.val, e.ver, 0) = false := decide_eq_false (fun h => by
    have := congrArg (fun x : Wd => x.2.1) h
    simp only [] at this
    omega)
  rw [hne]; rfl
theorem met_ro {l : List Wd} {es : List En} (h0 : checkE es = 0) (h1 : hasB l es = true) {e : En} (he : e ∈ es) (hw : e.wr = false) : met (setL l es) e = met l e := by
  obtain ⟨k, hk, _⟩ := hasB_in h1 he
  have h2 := setL_other (k := k) es l (fun y hy hy2 => by
    obtain ⟨k2, hk2, _⟩ := hasB_in h1 hy
    have := pw_ne (checkE_pw h0) hy he (by rw [hy2, hw]; simp)
    omega)
  unfold met
  rw [hk, atW_congr h2]

/-- A swap that wrote fails when it is repeated; one that wrote nothing can be repeated. -/
theorem swap_twice {l : List Wd} {es : List En} (h0 : checkE es = 0) (h1 : hasB l es = true) (h2 : holdsB l es = true) : swapN (setL l es) es = (setL l es, !(es.any (fun e => e.wr)), 0) := by
  have h3 : hasB (setL l es) es = true := by rw [hasB_len (setL_len l es)]; exact h1
  unfold swapN
  rw [if_neg (by rw [h0]; simp), if_neg (by rw [h3]; simp)]
  cases ha : es.any (fun e => e.wr)
  · rw [setL_nowr es l ha, if_neg (by rw [h2]; simp), setL_nowr es l ha]; rfl
  · obtain ⟨e, he, hw⟩ := List.any_eq_true.1 ha
    have h4 : holdsB (setL l es) es = false := by
      cases hh : holdsB (setL l es) es
      · rfl
      · have := List.all_eq_true.1 hh e he
        rw [met_wr h0 h1 he hw] at this; cases this
    rw [if_pos h4]; rfl
/-- What a swap may tell. -/
theorem swap_cases (l : List Wd) (es : List En) : (checkE es = 0 ∧ hasB l es = true ∧ holdsB l es = true ∧ swapN l es = (setL l es, true, 0)) ∨ (∃ e : Int, e ≠ 0 ∧ swapN l es = (l, false, e)) ∨ swapN l es = (l, false, 0) := by
  unfold swapN
  by_cases h0 : checkE es = 0
  · rw [if_neg (by rw [h0]; simp)]
    cases h1 : hasB l es
    · exact .inr (.inl ⟨1, by omega, by simp⟩)
    · cases h2 : holdsB l es
      · exact .inr (.inr (by simp))
      · exact .inl ⟨h0, rfl, rfl, by simp⟩
  · exact .inr (.inl ⟨_, h0, by rw [if_pos h0]⟩)
theorem holdsB_cut (l : List Wd) (es : List En) (k : Nat) : holdsB l es = (holdsB l (es.take k) && holdsB l (es.drop k)) := by
  unfold holdsB
  rw [← List.all_append, List.take_append_drop]

end Go.Proofs.Ytdodipejckigoaa
