/- Plain: Read looks at the owner's room alone; what is laid is read again, also behind another's. Plain: the images that the statements make hold words in range. A slice's rest. Plain: the kinds of answers of Read; the room of the reference's Place. -/
import Derived.Test.YtfijnpfhffhffaaDoorReadLaw
import Derived.Test.YtfijnpfhffhffaaDoorLaidWalk
import Derived.Test.YtfijnpfhffhffaaDoorMemWalk
namespace Go.Proofs.YtfijnpfhffhffaaDoor
set_option linter.unusedSimpArgs false
set_option linter.unusedVariables false
open Go.RowKit

theorem unpackTo_congr {l l' : List Wd} {q : Nat} : ∀ {k : Nat}, (∀ i, i < 3 * k → l[q + i]? = l'[q + i]?) → unpackTo l q k = unpackTo l' q k
  | 0, _ => rfl
  | k + 1, h => by
    have ih := unpackTo_congr (k := k) (fun i hi => h i (by omega))
    have h0 := h (3 * k) (by omega)
    have h1 := h (3 * k + 1) (by omega)
    have h2 := h (3 * k + 2) (by omega)
    rw [← Nat.add_assoc] at h1 h2
    unfold unpackTo
    rw [ih, h0, h1, h2]
theorem readN_congr {t c b who : Int} {l l' : List Wd} (hl : l.length = l'.length) (h : (placeN t c b who).2 ≠ 0 → ∀ i : Nat, (placeN t c b who).1 ≤ (i : Int) → (i : Int) < (placeN t c b who).1 + 2 + 3 * (placeN t c b who).2 → l[i]? = l'[i]?) : readN t c b l who = readN t c b l' who := by
  unfold readN
  rw [hl]
  split
  · rfl
  · split
    · rfl
    · rename_i h1 h2
      have hr := place_room h2
      have hb := place_bd t c b who
      have h0 := h h2 (placeN t c b who).1.toNat (by omega) (by omega)
      have h3 := h h2 ((placeN t c b who).1.toNat + 1) (by omega) (by omega)
      rw [h0, h3]
      split
      · rename_i s n hs hn
        split
        · rename_i hh
          have hn1 : 1 ≤ n.1 ∧ n.1 ≤ (placeN t c b who).2 := by
            unfold headB at hh
            simp only [Bool.and_eq_true, decide_eq_true_eq] at hh
            exact hh.2.1.2
          rw [unpackTo_congr (l := l) (l' := l') (fun i hi => h h2 _ (by omega) (by omega))]
        · rfl
      · rfl
/-- What has been laid is read. -/
theorem read_laid {t c b who seq st : Int} {es : List En} (hd : dcheckN t c b who seq st es = 0) {L : List Wd} (hl : (L.length : Int) = sizeN t c b) : readN t c b (laidL t c b who seq st es L) who = (0, some (seq, st, es)) := by
  obtain ⟨_, h2, _, _, _, _, _, h8⟩ := dcheck_ok hd
  have hr := place_room h2
  refine read_words hd (by rw [laidL_len]; exact hl) (fun i hi => ?_)
  unfold laidL
  rw [if_pos hd, putL_get _ _ _ _ _ (by rw [wordsW_len]; exact Nat.le_refl _) (by omega), if_pos (by omega)]
  congr 1; omega
/-- A descriptor laid elsewhere turns no reading. -/
theorem read_other {t c b u who seq st : Int} {es : List En} (hu0 : -9223372036854775808 ≤ u) (hu1 : u ≤ 9223372036854775807) (hw0 : -9223372036854775808 ≤ who) (hw1 : who ≤ 9223372036854775807) (hne : u ≠ who) {L : List Wd} (hl : (L.length : Int) = sizeN t c b) :
    readN t c b (laidL t c b who seq st es L) u = readN t c b L u := by
  refine readN_congr (laidL_len ..) (fun hu i hi hi2 => ?_)
  unfold laidL
  split
  · rename_i hd
    obtain ⟨_, h2, _, _, _, _, _, h8⟩ := dcheck_ok hd
    have hr := place_room h2
    have ha := rooms_apart hu0 hu1 hw0 hw1 hne hu h2
    rw [putL_get _ _ _ _ _ (by rw [wordsW_len]; exact Nat.le_refl _) (by omega), if_neg (by omega)]
  · rfl

end Go.Proofs.YtfijnpfhffhffaaDoor

namespace Go.Proofs.YtfijnpfhffhffaaDoor
set_option linter.unusedSimpArgs false
set_option linter.unusedVariables false
open Go.RowKit

theorem set_ok {L : List Wd} (h : ∀ a ∈ L, WdOk a) {x : Wd} (hx : WdOk x) (i : Nat) : ∀ a ∈ L.set i x, WdOk a := by
  intro a ha
  rcases List.mem_or_eq_of_mem_set ha with h1 | h1
  · exact h a h1
  · subst h1; exact hx
theorem wdOk0 (x : Int) (h : 0 ≤ x ∧ x ≤ 2) : WdOk (x, 0, 0) := ⟨⟨by dsimp only; omega, by dsimp only; omega⟩, ⟨by dsimp only; omega, by dsimp only; omega⟩, ⟨by dsimp only; omega, by dsimp only; omega⟩⟩
theorem firstL_ok (t c b : Int) : ∀ a ∈ firstL t c b, WdOk a := by
  have h0 : ∀ n, ∀ a ∈ first0 n, WdOk a := by
    intro n
    refine set_ok (fun a ha => ?_) (wdOk0 1 (by omega)) 1
    rw [(List.mem_replicate.1 ha).2]
    exact wdOk0 0 (by omega)
  have h1 : ∀ n k, ∀ a ∈ first1 t c b n k, WdOk a := by
    intro n k
    induction k with
    | zero => exact h0 n
    | succ k ih => exact set_ok ih (wdOk0 2 (by omega)) _
  have h2 : ∀ n T k, ∀ a ∈ first2 t c b n T k, WdOk a := by
    intro n T k
    induction k with
    | zero => exact h1 n T
    | succ k ih => exact set_ok ih (wdOk0 2 (by omega)) _
  unfold firstL
  split
  · exact h2 _ _ _
  · simp
theorem putL_ok {L X : List Wd} (hL : ∀ a ∈ L, WdOk a) (hX : ∀ a ∈ X, WdOk a) (p k : Nat) : ∀ a ∈ putL L X p k, WdOk a := by
  induction k with
  | zero => exact hL
  | succ k ih =>
    refine set_ok ih ?_ _
    rw [List.getD_eq_getElem?_getD]
    cases h : X[k]? with
    | none => exact wdOk0 0 (by omega)
    | some x => exact hX x (List.mem_of_getElem? h)
theorem wordsW_ok {seq st : Int} {es : List En} (hq : 1 ≤ seq ∧ seq ≤ 16777215) (hs : 0 ≤ st ∧ st ≤ 3) (hl : es.length ≤ 40) (hok : ∀ e ∈ es, EnOk e) : ∀ a ∈ wordsW seq st es, WdOk a := by
  intro a ha
  unfold wordsW at ha
  rcases List.mem_append.1 ha with h | h
  · simp only [List.mem_cons, List.not_mem_nil, or_false] at h
    rcases h with rfl | rfl
    · exact ⟨⟨by dsimp only; omega, by dsimp only; omega⟩, ⟨by dsimp only; omega, by dsimp only; omega⟩, ⟨by dsimp only; omega, by dsimp only; omega⟩⟩
    · exact ⟨⟨by dsimp only; omega, by dsimp only; omega⟩, ⟨by dsimp only; omega, by dsimp only; omega⟩, ⟨by dsimp only; omega, by dsimp only; omega⟩⟩
  · obtain ⟨e, he, h⟩ := List.mem_flatMap.1 h
    have hk := hok e he
    obtain ⟨k0, k1, k2, k3, k4, k5, k6, k7, k8, k9⟩ := hk
    unfold packW at h
    simp only [List.mem_cons, List.not_mem_nil, or_false] at h
    rcases h with rfl | rfl | rfl
    · refine ⟨⟨k0, k1⟩, ?_, ⟨by dsimp only; omega, by dsimp only; omega⟩⟩
      dsimp only
      split <;> omega
    · exact ⟨⟨k2, k3⟩, ⟨k4, k5⟩, ⟨by dsimp only; omega, by dsimp only; omega⟩⟩
    · exact ⟨⟨k8, k9⟩, ⟨by dsimp only; omega, by dsimp only; omega⟩, ⟨by dsimp only; omega, by dsimp only; omega⟩⟩
theorem laidL_ok {t c b who seq st : Int} {es : List En} {L : List Wd} (hL : ∀ a ∈ L, WdOk a) (hok : ∀ e ∈ es, EnOk e) : ∀ a ∈ laidL t c b who seq st es L, WdOk a := by
  unfold laidL
  split
  · rename_i hd
    obtain ⟨_, _, h3, h4, _, _, _, h8⟩ := dcheck_ok hd
    have hb := place_bd t c b who
    exact putL_ok hL (wordsW_ok h3 h4 (by omega) hok) _ _
  · exact hL
theorem memTo_ok {L : List Wd} {pl : List Pt} (hL : ∀ a ∈ L, WdOk a) (hp : ∀ a ∈ pl, PtOk a) (k : Nat) : ∀ a ∈ memTo L pl k, WdOk a := by
  induction k with
  | zero => exact hL
  | succ k ih =>
    unfold memTo
    split
    · rename_i x hx
      exact set_ok ih (hp x (List.mem_of_getElem? hx)).2 _
    · exact ih
theorem firstL_len {t c b : Int} (hr : rightN t c b = true) : ((firstL t c b).length : Int) = sizeN t c b := by
  have h7 := (from_le7 (right_lok hr).1).2.2.2.2
  unfold firstL sizeN
  rw [if_pos hr, if_pos hr, first2_len]; omega

end Go.Proofs.YtfijnpfhffhffaaDoor

namespace Go.Proofs.YtfijnpfhffhffaaDoor
set_option linter.unusedSimpArgs false
set_option linter.unusedVariables false
open Go.RowKit

/-- A slice's rest: 's[k:]'. -/
theorem Sl.dropAt {α : Type} {w : World} {size : Nat} {enc : α → List Value} {l : List α} {a : Option Addr} {n c : Nat} (h : Sl w size enc (.slice a n c) l) (k : Nat) (hk : k ≤ l.length) :
    Sl w size enc (.slice (if c = k then a else a.map (fun x => x.add (k * size))) (l.length - k) (c - k)) (l.drop k) := by
  obtain ⟨a', c1, hv, hm, hl⟩ := h
  simp only [Value.slice.injEq] at hv
  obtain ⟨rfl, rfl, rfl⟩ := hv
  refine ⟨_, _, by rw [List.length_drop], by rw [List.length_drop]; omega, fun hn => ?_⟩
  have hkl : k < l.length := by
    rcases Nat.lt_or_ge k l.length with h | h
    · exact h
    · exact absurd (List.drop_eq_nil_of_le h) hn
  obtain ⟨b, o, rfl, hb, hc⟩ := hl (fun h0 => by rw [h0] at hkl; simp at hkl)
  have hadd : (⟨b, o, none⟩ : Addr).add (k * size) = ⟨b, o + k * size, none⟩ := by unfold Addr.add; split <;> simp_all
  refine ⟨b, o + k * size, by rw [if_neg (by omega), Option.map_some, hadd], hb, fun i x hx j hj => ?_⟩
  rw [List.getElem?_drop] at hx
  have := hc _ x hx j hj
  rw [Nat.add_mul] at this
  rw [← this]
  congr 2
  omega

theorem Sl.dropB {α : Type} {w : World} {size : Nat} {enc : α → List Value} {l : List α} {b o n c : Nat} (h : Sl w size enc (.slice (some ⟨b, o, none⟩) n c) l) (k : Nat) (hk : k ≤ l.length) (hc : ¬ c = k) :
    Sl w size enc (.slice (some ⟨b, o + k * size, none⟩) (n - k) (c - k)) (l.drop k) := by
  have h1 := Sl.dropAt h k hk
  obtain ⟨a', c1, hv, _, _⟩ := h
  simp only [Value.slice.injEq] at hv
  have hadd : (⟨b, o, none⟩ : Addr).add (k * size) = ⟨b, o + k * size, none⟩ := by unfold Addr.add; split <;> simp_all
  rw [if_neg hc, Option.map_some, hadd, ← hv.2.1] at h1
  exact h1
theorem Sl.cap {α : Type} {w : World} {size : Nat} {enc : α → List Value} {l : List α} {a : Option Addr} {n c : Nat} (h : Sl w size enc (.slice a n c) l) : n = l.length ∧ n ≤ c := by
  obtain ⟨a', c1, hv, hm, _⟩ := h
  simp only [Value.slice.injEq] at hv
  omega

theorem readN_kinds {t c b : Int} {l : List Wd} {who : Int} (h1 : checkN t c b = 0) (h2 : ¬ (l.length : Int) < sizeN t c b) :
    ((placeN t c b who).2 = 0 ∧ readN t c b l who = (3, none)) ∨ ((placeN t c b who).2 ≠ 0 ∧ (readN t c b l who = (5, none) ∨ ∃ seq st es, readN t c b l who = (0, some (seq, st, es)))) := by
  rw [readN_ok h1 h2]
  by_cases h : (placeN t c b who).2 = 0
  · left; rw [if_pos h]; exact ⟨h, rfl⟩
  · right
    refine ⟨h, ?_⟩
    rw [if_neg h]
    split
    · split
      · split
        · split
          · exact .inr ⟨_, _, _, rfl⟩
          · exact .inl rfl
        · exact .inl rfl
      · exact .inl rfl
    · exact .inl rfl
theorem readN_short {t c b : Int} {l : List Wd} {who : Int} (h : (l.length : Int) < sizeN t c b) : readN t c b l who = (1, none) := by
  unfold readN; rw [if_pos (.inr h)]
/-- The room that the reference's Place gives lies in the image. -/
theorem rroom {T C B sl rm who n : Int} (hP : rplaceN T B sl rm who = placeN T C B who) (hn : sizeN T C B ≤ n) :
    ¬ (rplaceN T B sl rm who).1 < 0 → (rplaceN T B sl rm who).1 ≤ 30000 ∧ (0 ≤ (rplaceN T B sl rm who).2 ∧ (rplaceN T B sl rm who).2 ≤ 32) ∧ (rplaceN T B sl rm who).1 + 2 + 3 * (rplaceN T B sl rm who).2 ≤ n := by
  rw [hP]
  intro h
  have hb := place_bd T C B who
  have hm : (placeN T C B who).2 ≠ 0 := by
    intro h0
    have := place_neg h0
    rw [this] at h
    exact h (by decide)
  have hr := place_room hm
  exact ⟨hb.1.2, hb.2, by omega⟩
theorem place_most {t c b who : Int} (h0 : -9223372036854775808 ≤ who) (h1 : who ≤ 9223372036854775807) (hm : (placeN t c b who).2 ≠ 0) : 10 ≤ (placeN t c b who).2 := by
  obtain ⟨_, ⟨_, _, h⟩ | ⟨_, _, _, h⟩⟩ := place_val h0 h1 hm <;> rw [h] <;> dsimp only <;> omega

/-- Plain: the first k words put into the room at p, each at its number modulo twelve. -/
def roomTo (L : List Wd) (p : Int) (pl : List Pt) : Nat → List Wd
  | 0 => L
  | k + 1 => match pl[k]? with
    | some x => if 0 ≤ p then (roomTo L p pl k).set (p + x.1 % 12).toNat x.2 else roomTo L p pl k
    | none => roomTo L p pl k
theorem roomTo_len (L : List Wd) (p : Int) (pl : List Pt) (k : Nat) : (roomTo L p pl k).length = L.length := by
  induction k with
  | zero => rfl
  | succ k ih =>
    simp only [roomTo]
    split
    · split <;> simp [ih]
    · exact ih
theorem roomTo_yes {L : List Wd} {p : Int} {pl : List Pt} {k : Nat} {x : Pt} (h : pl[k]? = some x) (hp : 0 ≤ p) : roomTo L p pl (k + 1) = (roomTo L p pl k).set (p + x.1 % 12).toNat x.2 := by
  simp only [roomTo, h, if_pos hp]
theorem roomTo_no {L : List Wd} {p : Int} {pl : List Pt} {k : Nat} {x : Pt} (h : pl[k]? = some x) (hp : ¬ 0 ≤ p) : roomTo L p pl (k + 1) = roomTo L p pl k := by
  simp only [roomTo, h, if_neg hp]
theorem roomTo_ok {L : List Wd} {p : Int} {pl : List Pt} (hL : ∀ a ∈ L, WdOk a) (hp : ∀ a ∈ pl, PtOk a) (k : Nat) : ∀ a ∈ roomTo L p pl k, WdOk a := by
  induction k with
  | zero => exact hL
  | succ k ih =>
    unfold roomTo
    split
    · rename_i x hx
      split
      · exact set_ok ih (hp x (List.mem_of_getElem? hx)).2 _
      · exact ih
    · exact ih

end Go.Proofs.YtfijnpfhffhffaaDoor
