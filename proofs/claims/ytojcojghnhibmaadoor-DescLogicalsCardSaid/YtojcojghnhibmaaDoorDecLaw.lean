/- Plain: a status set to Done turns the logical words of the installed written entries, and of no others. -/
import Derived.Test.YtojcojghnhibmaaDoorSlD
import Derived.Test.YtojcojghnhibmaaDoorRefD
namespace Go.Proofs.YtojcojghnhibmaaDoor
set_option linter.unusedSimpArgs false
set_option linter.unusedVariables false
open Go.RowKit

theorem may_low {t c b p : Int} (h : mayN t c b p = true) : p < fromN t c b 4 := by
  unfold mayN at h
  rw [Bool.and_eq_true] at h
  obtain ⟨hr, h⟩ := h
  have hk := (right_lok hr).1
  have m3 : fromN t c b 3 ≤ fromN t c b 4 := from_mono hk 3
  have hc : fromN t c b 3 + c ≤ fromN t c b 4 := by
    obtain ⟨h1, h2, h3, h4, h5, h6⟩ := hk
    simp only [fromN, longN, manyN, szN, upN]
    simp
    omega
  rw [Bool.or_eq_true, decide_eq_true_eq, decide_eq_true_eq] at h
  rcases h with h | h <;> omega
theorem place_high {t c b who : Int} (h0 : -9223372036854775808 ≤ who) (h1 : who ≤ 9223372036854775807) (hm : (placeN t c b who).2 ≠ 0) : fromN t c b 4 ≤ (placeN t c b who).1 ∧ 1 ≤ who ∧ who ≤ 72 := by
  obtain ⟨hr, hp⟩ := place_val h0 h1 hm
  have hk := (right_lok hr).1
  have hf := from46 hk
  have hb := hk.2.2.2.2.2
  have ht := hk.2.1
  have ht1 := hk.1
  rcases hp with ⟨a1, a2, a3⟩ | ⟨a1, a2, a3, a4⟩
  · rw [a3]; dsimp only; omega
  · rw [a4]; dsimp only; omega

theorem dcheck_st {t c b who seq st : Int} {es : List En} (h : dcheckN t c b who seq st es = 0) {s : Int} (hs : 0 ≤ s ∧ s ≤ 3) : dcheckN t c b who seq s es = 0 := by
  obtain ⟨h1, h2, h3, h4, h5, h6, h7, h8⟩ := dcheck_ok h
  unfold dcheckN
  rw [if_neg (by rw [h1]; simp), if_neg h2, if_neg (by omega), if_neg (by omega), if_neg (by rw [h5]; simp), if_neg (by rw [h6]; simp), if_neg (by rw [h7]; simp), if_neg (by omega)]

/-- The status word alone turns. -/
theorem laid_status {t c b who seq : Int} {es : List En} (h : dcheckN t c b who seq 0 es = 0) {s : Int} (hs : 0 ≤ s ∧ s ≤ 3) {L : List Wd} (hl : (L.length : Int) = sizeN t c b) :
    (laidL t c b who seq 0 es L).set (placeN t c b who).1.toNat (s, seq, 0) = laidL t c b who seq s es L := by
  obtain ⟨_, h2, _, _, _, _, _, h8⟩ := dcheck_ok h
  have hr := place_room h2
  have h' := dcheck_st h hs
  apply List.ext_getElem?
  intro i
  unfold laidL
  rw [if_pos h, if_pos h', List.getElem?_set, putL_len, putL_get _ _ _ _ _ (by rw [wordsW_len]; exact Nat.le_refl _) (by omega), putL_get _ _ _ _ _ (by rw [wordsW_len]; exact Nat.le_refl _) (by omega)]
  by_cases hi : (placeN t c b who).1.toNat = i
  · rw [if_pos hi, if_pos (by omega), if_pos (by omega), show i - (placeN t c b who).1.toNat = 0 by omega]
    rfl
  · rw [if_neg hi]
    by_cases h3 : (placeN t c b who).1.toNat ≤ i ∧ i < (placeN t c b who).1.toNat + (2 + 3 * es.length)
    · rw [if_pos h3, if_pos h3]
      obtain ⟨m, hm⟩ : ∃ m, i - (placeN t c b who).1.toNat = m + 1 := ⟨i - (placeN t c b who).1.toNat - 1, by omega⟩
      rw [hm]
      rfl
    · rw [if_neg h3, if_neg h3]
/-- What may be written by a swap lies in no room. -/
theorem laid_may {t c b who seq st : Int} {es : List En} (hw0 : -9223372036854775808 ≤ who) (hw1 : who ≤ 9223372036854775807) {L : List Wd} (hl : (L.length : Int) = sizeN t c b) {i : Nat} (hi : mayN t c b i = true) :
    (laidL t c b who seq st es L)[i]? = L[i]? := by
  unfold laidL
  split
  · rename_i hd
    obtain ⟨_, h2, _, _, _, _, _, h8⟩ := dcheck_ok hd
    have hr := place_room h2
    have h1 := may_low hi
    have h3 := place_high hw0 hw1 h2
    rw [putL_get _ _ _ _ _ (by rw [wordsW_len]; exact Nat.le_refl _) (by omega), if_neg (by omega)]
  · rfl

theorem who_ref {who seq x : Int} (hw : 1 ≤ who ∧ who ≤ 72) (hs : 1 ≤ seq ∧ seq ≤ 16777215) (hx : 0 ≤ x ∧ x ≤ 4294967295) : x = (refN who seq).1 ↔ whoN x = (who, seq) := by
  unfold refN whoN
  rw [if_pos (by omega)]
  constructor
  · intro h
    dsimp only at h
    rw [if_pos (by omega)]
    simp only [Prod.mk.injEq]
    omega
  · intro h
    split at h
    · simp only [Prod.mk.injEq] at h
      dsimp only
      omega
    · simp only [Prod.mk.injEq] at h
      omega

/-- The law of DescDecides. -/
theorem dec_law {t c b who seq : Int} {es : List En} (hw0 : -9223372036854775808 ≤ who) (hw1 : who ≤ 9223372036854775807) (hd : dcheckN t c b who seq 0 es = 0) {s : Int} (hs : 1 ≤ s ∧ s ≤ 3) {L : List Wd} (hl : (L.length : Int) = sizeN t c b) (hok : ∀ a ∈ L, WdOk a)
    {i : Nat} {x : Wd} (hi : mayN t c b i = true) (hx : (laidL t c b who seq 0 es L)[i]? = some x) :
    logicN t c b (laidL t c b who seq s es L) i = (if x.2.2 = (refN who seq).1 ∧ s = 1 then outW x.1 x.2.1 (findW i es) else (logicN t c b (laidL t c b who seq 0 es L) i).1, 0) ∧ (logicN t c b (laidL t c b who seq 0 es L) i).2 = 0
    ∧ (x.2.2 = (refN who seq).1 → (logicN t c b (laidL t c b who seq 0 es L) i).1 = (x.1, x.2.1, 0)) := by
  obtain ⟨h1, h2, h3, h4, h5, h6, h7, h8⟩ := dcheck_ok hd
  have hds := dcheck_st hd (s := s) (by omega)
  have hpl := place_high hw0 hw1 h2
  have hxL : L[i]? = some x := by rw [← hx, laid_may hw0 hw1 hl hi]
  have hxs : (laidL t c b who seq s es L)[i]? = some x := by rw [laid_may hw0 hw1 hl hi]; exact hxL
  have hxk := (hok x (List.mem_of_getElem? hxL)).2.2
  have hlg : ∀ M : List Wd, M.length = L.length → M[i]? = some x → logicN t c b M i = (logicW t c b M x i, 0) := by
    intro M hM hMx
    unfold logicN
    rw [if_neg (by rintro (h | h); exact h h1; rw [hM, hl] at h; omega), if_neg (by rw [hi]; simp), Int.toNat_natCast, hMx]
  rw [hlg _ (laidL_len ..) hxs, hlg _ (laidL_len ..) hx]
  have hwr := who_ref (who := who) (seq := seq) ⟨hpl.2.1, hpl.2.2⟩ h3 hxk
  obtain ⟨x1, x2, x3⟩ := x
  dsimp only at hwr hxk ⊢
  have hrd : ∀ s', 0 ≤ s' ∧ s' ≤ 3 → ∀ u, -9223372036854775808 ≤ u → u ≤ 9223372036854775807 → readN t c b (laidL t c b who seq s' es L) u = if u = who then (0, some (seq, s', es)) else readN t c b L u := by
    intro s' hs' u hu0 hu1
    by_cases hu : u = who
    · rw [if_pos hu, hu]; exact read_laid (dcheck_st hd hs') hl
    · rw [if_neg hu]; exact read_other hu0 hu1 hw0 hw1 hu hl
  have hub : -9223372036854775808 ≤ (whoN x3).1 ∧ (whoN x3).1 ≤ 9223372036854775807 := by
    unfold whoN; split <;> dsimp only <;> omega
  unfold logicW
  dsimp only
  rw [hrd s (by omega) _ hub.1 hub.2, hrd 0 (by omega) _ hub.1 hub.2]
  by_cases hu : (whoN x3).1 = who
  · have hz : ¬ (whoN x3).1 = 0 := by omega
    have h01 : ¬ (seq = (whoN x3).2 ∧ (0 : Int) = 1) := by omega
    simp only [if_pos hu, if_neg hz, if_neg h01]
    by_cases hq : seq = (whoN x3).2
    · have hxr : x3 = (refN who seq).1 := hwr.2 (by rw [← hu, hq])
      by_cases hs1 : s = 1
      · rw [if_pos ⟨hq, hs1⟩, if_pos ⟨hxr, hs1⟩]; exact ⟨by rfl, by trivial, by simp⟩
      · rw [if_neg (fun h => hs1 h.2), if_neg (fun h => hs1 h.2)]; exact ⟨by rfl, by trivial, by simp⟩
    · have hxr : ¬ x3 = (refN who seq).1 := fun h => hq (by rw [hwr.1 h])
      rw [if_neg (by rintro ⟨h, _⟩; exact hq h), if_neg (by rintro ⟨h, _⟩; exact hxr h)]
      exact ⟨by rfl, by trivial, by simp⟩
  · have hxr : ¬ x3 = (refN who seq).1 := fun h => hu (by rw [hwr.1 h])
    rw [if_neg hu, if_neg hu, if_neg (show ¬ (x3 = (refN who seq).1 ∧ s = 1) by rintro ⟨h, _⟩; exact hxr h)]
    exact ⟨rfl, rfl, fun h => absurd h hxr⟩

/-- Plain: the word wanted after k entries. -/
def wantTo (es : List En) (i : Int) (c : Bool) (y : Int) (a : Wd) : Nat → Wd
  | 0 => a
  | k + 1 => match es[k]? with
    | some e => if (decide (e.loc = i) && e.wr && c) = true then (e.new, (y + 1) % 4294967296, 0) else wantTo es i c y a k
    | none => wantTo es i c y a k
theorem wantTo_at {es : List En} {i : Int} {c : Bool} {y : Int} {a : Wd} {k : Nat} {e : En} (h : es[k]? = some e) : wantTo es i c y a (k + 1) = if (decide (e.loc = i) && e.wr && c) = true then (e.new, (y + 1) % 4294967296, 0) else wantTo es i c y a k := by
  simp only [wantTo, h]
theorem inc_all : ∀ (r : List En) (e : En), incP (some e) r → ∀ x ∈ r, e.loc < x.loc
  | [], _, _, _, hx => by simp at hx
  | d :: r, e, h, x, hx => by
    obtain ⟨h1, h2⟩ := h
    have h3 := h1 e rfl
    rcases List.mem_cons.1 hx with rfl | hx
    · exact h3
    · have := inc_all r d h2 x hx; omega
theorem want_no : ∀ (es : List En) (i : Int) (c : Bool) (y : Int) (a : Wd) (k : Nat), (∀ x ∈ es, x.loc ≠ i) ∨ c = false → wantTo es i c y a k = a
  | _, _, _, _, _, 0, _ => rfl
  | es, i, c, y, a, k + 1, h => by
    have ih := want_no es i c y a k h
    unfold wantTo
    split
    · rename_i e he
      rw [if_neg, ih]
      rcases h with h | h
      · have := h e (List.mem_of_getElem? he); simp [this]
      · simp [h]
    · exact ih
theorem want_cons (e : En) (r : List En) (i : Int) (c : Bool) (y : Int) (a : Wd) : ∀ k, wantTo (e :: r) i c y a (k + 1) = wantTo r i c y (if (decide (e.loc = i) && e.wr && c) = true then (e.new, (y + 1) % 4294967296, 0) else a) k
  | 0 => by simp [wantTo]
  | k + 1 => by
    rw [wantTo, want_cons e r i c y a k]
    simp only [List.getElem?_cons_succ]
    rfl
theorem want_law : ∀ (es : List En) (q : Option En), incP q es → ∀ (i : Int) (c : Bool) (y : Int) (a : Wd), wantTo es i c y a es.length = if c = true then (match findW i es with | some v => (v, (y + 1) % 4294967296, 0) | none => a) else a
  | [], _, _, i, c, y, a => by cases c <;> rfl
  | e :: r, q, h, i, c, y, a => by
    obtain ⟨_, h2⟩ := h
    rw [List.length_cons, want_cons]
    cases c with
    | false => simp only [Bool.and_false, Bool.false_eq_true, if_false]; exact want_no r i false y a _ (.inr rfl)
    | true =>
      simp only [Bool.and_true, if_true, findW]
      by_cases hl : e.loc = i
      · have hn : ∀ x ∈ r, x.loc ≠ i := fun x hx => by have := inc_all r e h2 x hx; omega
        have hf : ∀ r : List En, (∀ x ∈ r, x.loc ≠ i) → findW i r = none := by
          intro r
          induction r with
          | nil => intro _; rfl
          | cons d r ih =>
            intro hd
            rw [findW, if_neg (fun h => hd d (List.mem_cons_self ..) h.1), ih (fun x hx => hd x (List.mem_cons_of_mem _ hx))]
        rw [want_no r i true y _ _ (.inl hn), hf r hn]
        cases hw : e.wr <;> simp [hl]
      · rw [want_law r (some e) h2 i true y, if_pos rfl]
        simp [hl]
theorem check_inc {t c b who seq st : Int} {es : List En} (h : dcheckN t c b who seq st es = 0) : incP none es := by
  obtain ⟨_, _, _, _, h5, h6, _, _⟩ := dcheck_ok h
  have hr := (right_iff es).2 ⟨h5, h6⟩
  unfold rightB at hr
  rw [Bool.and_eq_true] at hr
  exact ((rightGo_iff es none).1 hr.1).2

/-- Plain: the references of the entries installed. -/
def instTo (t c b : Int) (L : List Wd) (es : List En) (r : Int) : Nat → List Wd
  | 0 => L
  | k + 1 => match es[k]? with
    | some e => if k % 3 ≠ 2 ∧ mayN t c b e.loc = true then (instTo t c b L es r k).set e.loc.toNat (e.val, e.ver, r) else instTo t c b L es r k
    | none => instTo t c b L es r k
theorem instTo_len (t c b : Int) (L : List Wd) (es : List En) (r : Int) (k : Nat) : (instTo t c b L es r k).length = L.length := by
  induction k with
  | zero => rfl
  | succ k ih =>
    simp only [instTo]
    split
    · split <;> simp [ih]
    · exact ih
theorem instTo_yes {t c b : Int} {L : List Wd} {es : List En} {r : Int} {k : Nat} {e : En} (h : es[k]? = some e) (h1 : k % 3 ≠ 2) (h2 : mayN t c b e.loc = true) : instTo t c b L es r (k + 1) = (instTo t c b L es r k).set e.loc.toNat (e.val, e.ver, r) := by
  simp only [instTo, h]; rw [if_pos ⟨h1, h2⟩]
theorem instTo_no {t c b : Int} {L : List Wd} {es : List En} {r : Int} {k : Nat} {e : En} (h : es[k]? = some e) (h1 : ¬ (k % 3 ≠ 2 ∧ mayN t c b e.loc = true)) : instTo t c b L es r (k + 1) = instTo t c b L es r k := by
  simp only [instTo, h]; rw [if_neg h1]
theorem ref_bd (who seq : Int) : 0 ≤ (refN who seq).1 ∧ (refN who seq).1 ≤ 4294967295 := by
  unfold refN; split <;> dsimp only <;> omega
theorem instTo_ok {t c b : Int} {L : List Wd} {es : List En} {r : Int} (hL : ∀ a ∈ L, WdOk a) (he : ∀ e ∈ es, EnOk e) (hr : 0 ≤ r ∧ r ≤ 4294967295) (k : Nat) : ∀ a ∈ instTo t c b L es r k, WdOk a := by
  induction k with
  | zero => exact hL
  | succ k ih =>
    unfold instTo
    split
    · rename_i e hx
      have hk := he e (List.mem_of_getElem? hx)
      split
      · exact set_ok ih ⟨⟨hk.val0, hk.val1⟩, ⟨hk.ver0, hk.ver1⟩, hr⟩ _
      · exact ih
    · exact ih
theorem rlog_same {q q' : Int → Option (Int × Int × List En)} {x : Wd} {p : Int} (h : q (x.2.2 / 16777216) = q' (x.2.2 / 16777216)) : rlogW q x p = rlogW q' x p := by
  unfold rlogW; rw [h]

end Go.Proofs.YtojcojghnhibmaaDoor
