/- Plain: the reference's Read answers as the code's Read. Plain: the reference's Read is the code's; what is laid is read again. Plain: descriptors of different owners lie apart. -/
import Derived.Test.YtfijnpfhffhffaaDoorFitLaw
import Derived.Test.YtfijnpfhffhffaaDoorDescJ
import Derived.Test.YtfijnpfhffhffaaDoorPlaceLaw
namespace Go.Proofs.YtfijnpfhffhffaaDoor
set_option linter.unusedSimpArgs false
set_option linter.unusedVariables false
open Go.RowKit

theorem unpack_pack_iff {x y z : Wd} (h : unpackB x y z = true) : packW (unpackE x y z) = [x, y, z] ∧ 0 ≤ x.1 ∧ x.1 < 4096 := by
  obtain ⟨x1, x2, x3⟩ := x
  obtain ⟨y1, y2, y3⟩ := y
  obtain ⟨z1, z2, z3⟩ := z
  simp only [unpackB, Bool.and_eq_true, decide_eq_true_eq] at h
  obtain ⟨⟨h1, h2⟩, ⟨⟨⟨h3, h4⟩, h5⟩, h6⟩, h7⟩ := h
  subst h4 h5 h6 h7
  refine ⟨?_, h1, h2⟩
  rcases h3 with rfl | rfl <;> rfl
theorem unpackTo_body {l : List Wd} {q : Nat} : ∀ {k : Nat} {es : List En}, unpackTo l q k = some es → ∀ i, i < 3 * k → l[q + i]? = (bodyW es)[i]?
  | 0, es, _, i, hi => by omega
  | k + 1, es, h, i, hi => by
    unfold unpackTo at h
    split at h
    · rename_i es' x y z h1 h2 h3 h4
      split at h
      · rename_i hb
        simp only [Option.some.injEq] at h
        subst h
        have hl := unpackTo_len h1
        have hbl := bodyW_len es'
        have hp := (unpack_pack_iff hb).1
        have hbd : bodyW (es' ++ [unpackE x y z]) = bodyW es' ++ [x, y, z] := by
          unfold bodyW; rw [List.flatMap_append]; simp [hp]
        rw [hbd]
        by_cases hi3 : i < 3 * k
        · rw [List.getElem?_append_left (by omega)]
          exact unpackTo_body h1 i hi3
        · rw [List.getElem?_append_right (by omega), hbl, hl]
          have hc : i = 3 * k ∨ i = 3 * k + 1 ∨ i = 3 * k + 2 := by omega
          rcases hc with rfl | rfl | rfl
          · rw [h2]; simp
          · rw [← Nat.add_assoc, h3]; simp
          · rw [← Nat.add_assoc, h4]; simp
      · cases h
    · cases h

/-- Plain: are the first k words from p on those of X? -/
def sameTo (l X : List Wd) (p : Nat) : Nat → Bool
  | 0 => true
  | k + 1 => sameTo l X p k && (match l[p + k]?, X[k]? with | some a, some b => wdB a b | _, _ => true)
theorem sameTo_at {l X : List Wd} {p k : Nat} {a b : Wd} (ha : l[p + k]? = some a) (hb : X[k]? = some b) : sameTo l X p (k + 1) = (sameTo l X p k && wdB a b) := by
  simp only [sameTo, ha, hb]
theorem sameTo_no {l X : List Wd} {p j : Nat} (h : sameTo l X p j = false) : ∀ m, sameTo l X p (j + m) = false
  | 0 => h
  | m + 1 => by rw [← Nat.add_assoc, sameTo, sameTo_no h m]; rfl
theorem sameTo_iff {l X : List Wd} {p : Nat} : ∀ {k : Nat}, sameTo l X p k = true ↔ ∀ i, i < k → ∀ a b, l[p + i]? = some a → X[i]? = some b → a = b
  | 0 => by simp [sameTo]
  | k + 1 => by
    rw [sameTo, Bool.and_eq_true, sameTo_iff]
    constructor
    · rintro ⟨h1, h2⟩ i hi a b ha hb
      by_cases hik : i = k
      · subst hik
        rw [ha, hb] at h2
        exact of_decide_eq_true h2
      · exact h1 i (by omega) a b ha hb
    · intro h
      refine ⟨fun i hi a b ha hb => h i (by omega) a b ha hb, ?_⟩
      split
      · rename_i a b ha hb; exact decide_eq_true (h k (by omega) a b ha hb)
      · rfl

def stN (x : Int) : Int := if 0 ≤ x ∧ x ≤ 3 then x else -1
/-- Plain: does a descriptor fit, by the reference? -/
def fitsB (T B sl rm : Int) (ws : List Bool) (who seq st : Int) (es : List En) : Bool :=
  decide (0 ≤ (rplaceN T B sl rm who).1) && decide (1 ≤ seq ∧ seq ≤ 16777215) && decide (0 ≤ st ∧ st ≤ 3) && decide ((es.length : Int) ≤ (rplaceN T B sl rm who).2) && rightB es && es.all (fun e => rmayB ws e.loc)
/-- Plain: what the reference's Read answers. -/
def rreadO (T B sl rm : Int) (ws : List Bool) (l : List Wd) (who : Int) : Option (Int × Int × List En) :=
  if (rplaceN T B sl rm who).1 < 0 then none
  else match l[(rplaceN T B sl rm who).1.toNat]?, l[(rplaceN T B sl rm who).1.toNat + 1]? with
    | some s, some n => if n.1 < 1 ∨ (rplaceN T B sl rm who).2 < n.1 then none
        else match unpackTo l ((rplaceN T B sl rm who).1.toNat + 2) n.1.toNat with
          | some es => if sameTo l (wordsW s.2.1 (stN s.1) es) (rplaceN T B sl rm who).1.toNat (2 + 3 * n.1.toNat) = true ∧ fitsB T B sl rm ws who s.2.1 (stN s.1) es = true then some (s.2.1, stN s.1, es) else none
          | none => none
    | _, _ => none

theorem may_bds {t c b p : Int} (h : mayN t c b p = true) : rightN t c b = true ∧ 0 ≤ p ∧ p < sizeN t c b := by
  unfold mayN at h
  rw [Bool.and_eq_true] at h
  obtain ⟨hr, h⟩ := h
  have hk := (right_lok hr).1
  have h7 := from_le7 hk
  have m2 : fromN t c b 2 ≤ fromN t c b 3 := from_mono hk 2
  have m3 : fromN t c b 3 ≤ fromN t c b 4 := from_mono hk 3
  have m0 : fromN t c b 0 ≤ fromN t c b 1 := from_mono hk 0
  have m1 : fromN t c b 1 ≤ fromN t c b 2 := from_mono hk 1
  have f0 : fromN t c b 0 = 0 := rfl
  have hs : sizeN t c b = fromN t c b 7 := by unfold sizeN; rw [if_pos hr]
  have hc : fromN t c b 3 + c ≤ fromN t c b 4 := by
    obtain ⟨h1, h2, h3, h4, h5, h6⟩ := hk
    simp only [fromN, longN, manyN, szN, upN]
    simp
    omega
  have ht : 0 ≤ t * 104 := by
    obtain ⟨h1, h2, h3, h4, h5, h6⟩ := hk
    omega
  refine ⟨hr, ?_⟩
  rw [hs]
  rw [Bool.or_eq_true, decide_eq_true_eq, decide_eq_true_eq] at h
  rcases h with h | h <;> constructor <;> omega
theorem rmay_law {T C B sz : Nat} (hsz : (sz : Int) = sizeN T C B) (p : Int) : rmayB (mayL T C B sz) p = mayN T C B p := by
  unfold rmayB
  rw [mayL_len]
  by_cases h : 0 ≤ p ∧ p < (sz : Int)
  · obtain ⟨n, rfl⟩ := Int.eq_ofNat_of_zero_le h.1
    have hn : n < sz := by omega
    rw [decide_eq_true h, Int.toNat_natCast, List.getD_eq_getElem?_getD]
    simp [mayL, hn]
  · rw [decide_eq_false h]
    cases hm : mayN T C B p
    · rfl
    · have := (may_bds hm).2
      rw [← hsz] at this
      omega
theorem fits_law {T C B sl rm sz : Nat} (hr : rightN T C B = true) (hT : T ≤ 8) (hsl : (sl : Int) = fromN T C B 4) (hrm : (rm : Int) = if 0 < B then fromN T C B 6 else 0) (hsz : (sz : Int) = sizeN T C B) (who seq st : Int) (h0 : -9223372036854775808 ≤ who) (h1 : who ≤ 9223372036854775807) (es : List En) :
    fitsB T B sl rm (mayL T C B sz) who seq st es = true ↔ dcheckN T C B who seq st es = 0 := by
  have hck : checkN T C B = 0 := by
    by_cases h : checkN T C B = 0
    · exact h
    · unfold rightN at hr; simp [h] at hr
  have hm : es.all (fun e => rmayB (mayL T C B sz) e.loc) = mayAll T C B es := by
    unfold mayAll; congr 1; funext e; exact rmay_law hsz e.loc
  unfold fitsB
  rw [place_law hr hT hsl hrm who h0 h1, hm]
  constructor
  · intro h
    simp only [Bool.and_eq_true, decide_eq_true_eq] at h
    obtain ⟨⟨⟨⟨⟨a1, a2⟩, a3⟩, a4⟩, a5⟩, a6⟩ := h
    obtain ⟨a7, a8⟩ := (right_iff es).1 a5
    have a9 : (placeN T C B who).2 ≠ 0 := by
      intro h; have := place_neg h; rw [this] at a1; omega
    unfold dcheckN
    rw [if_neg (by rw [hck]; simp), if_neg a9, if_neg (by omega), if_neg (by omega), if_neg (by rw [a7]; simp), if_neg (by rw [a8]; simp), if_neg (by rw [a6]; simp), if_neg (by omega)]
  · intro h
    obtain ⟨_, a2, a3, a4, a5, a6, a7, a8⟩ := dcheck_ok h
    have a9 := place_room a2
    simp only [Bool.and_eq_true, decide_eq_true_eq]
    exact ⟨⟨⟨⟨⟨a9.1, a3⟩, a4⟩, a8⟩, (right_iff es).2 ⟨a5, a6⟩⟩, a7⟩

end Go.Proofs.YtfijnpfhffhffaaDoor

namespace Go.Proofs.YtfijnpfhffhffaaDoor
set_option linter.unusedSimpArgs false
set_option linter.unusedVariables false
open Go.RowKit

theorem wordsW_0 (seq st : Int) (es : List En) : (wordsW seq st es)[0]? = some (st, seq, 0) := rfl
theorem wordsW_1 (seq st : Int) (es : List En) : (wordsW seq st es)[1]? = some ((es.length : Int), 0, 0) := rfl
theorem wordsW_2 (seq st : Int) (es : List En) (i : Nat) : (wordsW seq st es)[i + 2]? = (bodyW es)[i]? := by
  unfold wordsW
  rw [List.getElem?_append_right (by simp)]; simp
theorem same_words {l : List Wd} {p k : Nat} {s n : Wd} {seq st : Int} {es : List En} (hs : l[p]? = some s) (hn : l[p + 1]? = some n) (hu : unpackTo l (p + 2) k = some es) :
    sameTo l (wordsW seq st es) p (2 + 3 * k) = true ↔ s = (st, seq, 0) ∧ n = ((k : Int), 0, 0) := by
  have hl := unpackTo_len hu
  rw [sameTo_iff]
  constructor
  · intro h
    refine ⟨h 0 (by omega) s _ hs (wordsW_0 _ _ _), ?_⟩
    have := h 1 (by omega) n _ hn (wordsW_1 seq st es)
    rw [this, hl]
  · rintro ⟨h1, h2⟩ i hi a b ha hb
    match i, hi with
    | 0, _ => rw [Nat.add_zero, hs] at ha; rw [wordsW_0] at hb; cases ha; cases hb; exact h1
    | 1, _ => rw [hn] at ha; rw [wordsW_1, hl] at hb; cases ha; cases hb; exact h2
    | i + 2, hi =>
      rw [wordsW_2, ← unpackTo_body hu i (by omega)] at hb
      rw [show p + (i + 2) = p + 2 + i by omega] at ha
      rw [ha] at hb
      cases hb; rfl

theorem readN_ok {t c b : Int} {l : List Wd} (h1 : checkN t c b = 0) (h2 : ¬ (l.length : Int) < sizeN t c b) (who : Int) : readN t c b l who = if (placeN t c b who).2 = 0 then ((3 : Int), none)
  else match l[(placeN t c b who).1.toNat]?, l[(placeN t c b who).1.toNat + 1]? with
    | some s, some n => if headB s n (placeN t c b who).2 = true then
        (match unpackTo l ((placeN t c b who).1.toNat + 2) n.1.toNat with
          | some es => if dcheckN t c b who s.2.1 s.1 es = 0 then ((0 : Int), some (s.2.1, s.1, es)) else ((5 : Int), none)
          | none => ((5 : Int), none))
        else ((5 : Int), none)
    | _, _ => ((5 : Int), none) := by
  unfold readN
  rw [if_neg (by rintro (h | h); exact h h1; exact h2 h)]
  rfl
theorem flat_atG {α β : Type} {enc : α → List β} {size : Nat} (henc : ∀ x, (enc x).length = size) (l : List α) (i : Nat) (x : α) (hx : l[i]? = some x) (j : Nat) (hj : j < size) : (l.flatMap enc)[size * i + j]? = (enc x)[j]? := by
  induction l generalizing i with
  | nil => simp at hx
  | cons y ys ih =>
    cases i with
    | zero =>
      simp at hx
      subst hx
      rw [List.flatMap_cons, List.getElem?_append_left (by rw [henc]; omega)]
      simp
    | succ i =>
      simp at hx
      rw [List.flatMap_cons, List.getElem?_append_right (by rw [henc, Nat.mul_add]; omega), henc, ← ih i hx]
      congr 1
      rw [Nat.mul_add]; omega
theorem rread_law {T C B sl rm sz : Nat} (hr : rightN T C B = true) (hT : T ≤ 8) (hsl : (sl : Int) = fromN T C B 4) (hrm : (rm : Int) = if 0 < B then fromN T C B 6 else 0) (hsz : (sz : Int) = sizeN T C B) (l : List Wd) (hl : l.length = sz) (who : Int) (h0 : -9223372036854775808 ≤ who) (h1 : who ≤ 9223372036854775807) :
    rreadO T B sl rm (mayL T C B sz) l who = (readN T C B l who).2 := by
  have hck : checkN T C B = 0 := by
    by_cases h : checkN T C B = 0
    · exact h
    · unfold rightN at hr; simp [h] at hr
  have hF := fun seq st es => fits_law hr hT hsl hrm hsz who seq st h0 h1 es
  have hRN := readN_ok hck (show ¬ (l.length : Int) < sizeN T C B by omega) who
  unfold rreadO
  rw [place_law hr hT hsl hrm who h0 h1, hRN]
  by_cases hpm : (placeN T C B who).2 = 0
  · rw [if_pos hpm, place_neg hpm, if_pos (by decide)]
  · have hroom := place_room hpm
    have hbd := place_bd T C B who
    rw [if_neg (show ¬ (placeN T C B who).1 < 0 by omega), if_neg hpm]
    obtain ⟨s, hs⟩ : ∃ s, l[(placeN T C B who).1.toNat]? = some s := ⟨_, List.getElem?_eq_getElem (by omega)⟩
    obtain ⟨n, hn⟩ : ∃ s, l[(placeN T C B who).1.toNat + 1]? = some s := ⟨_, List.getElem?_eq_getElem (by omega)⟩
    rw [hs, hn]
    dsimp only
    by_cases hc : n.1 < 1 ∨ (placeN T C B who).2 < n.1
    · have hh : headB s n (placeN T C B who).2 = false := by
        unfold headB
        rw [decide_eq_false (p := 1 ≤ n.1 ∧ n.1 ≤ _) (by omega)]
        simp
      rw [if_pos hc, hh]; rfl
    · rw [if_neg hc]
      obtain ⟨k, hk⟩ := Int.eq_ofNat_of_zero_le (show 0 ≤ n.1 by omega)
      rw [hk, Int.toNat_natCast]
      cases hu : unpackTo l ((placeN T C B who).1.toNat + 2) k with
      | none => dsimp only; split <;> rfl
      | some es =>
        dsimp only
        have hsm := same_words (seq := s.2.1) (st := stN s.1) hs hn hu
        by_cases hy : (s = (stN s.1, s.2.1, 0) ∧ n = ((k : Int), 0, 0)) ∧ fitsB T B sl rm (mayL T C B sz) who s.2.1 (stN s.1) es = true
        · obtain ⟨⟨e1, e2⟩, e3⟩ := hy
          have d := (hF _ _ _).1 e3
          have hst := (dcheck_ok d).2.2.2.1
          have e4 : stN s.1 = s.1 := (congrArg Prod.fst e1).symm
          have e5 : s.2.2 = 0 := congrArg (fun a => a.2.2) e1
          rw [e4] at d hst
          have hh : headB s n (placeN T C B who).2 = true := by
            unfold headB
            rw [decide_eq_true (p := 0 ≤ s.1 ∧ s.1 ≤ 3) hst, decide_eq_true e5, decide_eq_true (p := 1 ≤ n.1 ∧ n.1 ≤ _) (by omega), e2]
            exact wdB_self _
          rw [if_pos ⟨hsm.2 ⟨e1, e2⟩, e3⟩, hh, if_pos rfl, if_pos d, e4]
        · rw [if_neg (fun h => hy ⟨hsm.1 h.1, h.2⟩)]
          split
          · rename_i hh
            split
            · rename_i d
              exfalso
              apply hy
              unfold headB at hh
              simp only [Bool.and_eq_true, decide_eq_true_eq, wdB] at hh
              obtain ⟨g1, ⟨g2, _⟩, g3⟩ := hh
              have e4 : stN s.1 = s.1 := by unfold stN; rw [if_pos g1]
              rw [e4]
              refine ⟨⟨?_, by rw [← hk]; exact g3⟩, (hF _ _ _).2 d⟩
              obtain ⟨s1, s2, s3⟩ := s
              simp only at g2
              rw [g2]
            · rfl
          · rfl

theorem unpackTo_of {l : List Wd} {q : Nat} {es : List En} (hb : ∀ i, i < 3 * es.length → l[q + i]? = (bodyW es)[i]?) (hok : ∀ e ∈ es, (0 ≤ e.loc ∧ e.loc < 4096) ∧ e.ref = 0) : ∀ j, j ≤ es.length → unpackTo l q j = some (es.take j)
  | 0, _ => rfl
  | j + 1, hj => by
    have ih := unpackTo_of hb hok j (by omega)
    have hx := List.getElem?_eq_getElem (show j < es.length by omega)
    generalize es[j] = e at hx
    have hbe : ∀ m, m < 3 → (bodyW es)[3 * j + m]? = (packW e)[m]? := fun m hm => flat_atG packW_len es j e hx m hm
    have h0 := hb (3 * j) (by omega)
    have h1 := hb (3 * j + 1) (by omega)
    have h2 := hb (3 * j + 2) (by omega)
    rw [show (bodyW es)[3 * j]? = _ from hbe 0 (by omega)] at h0
    rw [hbe 1 (by omega)] at h1
    rw [hbe 2 (by omega)] at h2
    obtain ⟨k1, k2⟩ := hok e (List.mem_of_getElem? hx)
    have h0' : l[q + 3 * j]? = some (e.loc, (if e.wr = true then 1 else 0), 0) := h0
    have h1' : l[q + 3 * j + 1]? = some (e.val, e.ver, 0) := h1
    have h2' : l[q + 3 * j + 2]? = some (e.new, 0, 0) := h2
    have hup : unpackB (e.loc, (if e.wr = true then 1 else 0), 0) (e.val, e.ver, 0) (e.new, 0, 0) = true := by
      cases e.wr <;> simp [unpackB, k1]
    have hue : unpackE (e.loc, (if e.wr = true then 1 else 0), 0) (e.val, e.ver, 0) (e.new, 0, 0) = e := by
      obtain ⟨a1, a2, a3, a4, a5, a6⟩ := e
      simp only at k2
      subst k2
      cases a6 <;> rfl
    rw [unpackTo, ih, h0', h1', h2']
    dsimp only
    rw [if_pos hup, hue, List.take_succ_eq_append_getElem (by omega)]
    congr 2
    obtain ⟨hh, hk⟩ := List.getElem?_eq_some_iff.1 hx
    rw [hk]

theorem check_ref {l : List En} (h : checkE l = 0) : ∀ x ∈ l, (0 ≤ x.loc ∧ x.loc < 4096) ∧ x.ref = 0 := by
  unfold checkE at h
  split at h
  · cases h
  · split at h
    · cases h
    · intro x hx
      have hw := ((checkGo_iff l []).1 h).1 x hx
      unfold wrongN at hw
      split at hw
      · cases hw
      · split at hw
        · cases hw
        · exact ⟨by omega, by omega⟩

/-- What has been laid is read again. -/
theorem read_words {t c b who seq st : Int} {es : List En} (hd : dcheckN t c b who seq st es = 0) {l : List Wd} (hl : (l.length : Int) = sizeN t c b)
    (hw : ∀ i, i < 2 + 3 * es.length → l[(placeN t c b who).1.toNat + i]? = (wordsW seq st es)[i]?) : readN t c b l who = (0, some (seq, st, es)) := by
  obtain ⟨h1, h2, h3, h4, h5, h6, h7, h8⟩ := dcheck_ok hd
  obtain ⟨g1, g2, g3⟩ := check_loc h5
  have w0 := hw 0 (by omega)
  have w1 := hw 1 (by omega)
  rw [wordsW_0, Nat.add_zero] at w0
  rw [wordsW_1] at w1
  have hu : unpackTo l ((placeN t c b who).1.toNat + 2) es.length = some (es.take es.length) := unpackTo_of (fun i hi => by
    have := hw (i + 2) (by omega)
    rw [wordsW_2] at this
    rw [← this]; congr 1; omega) (check_ref h5) _ (Nat.le_refl _)
  rw [List.take_length] at hu
  unfold readN
  rw [if_neg (by rintro (h | h); exact h h1; omega), if_neg h2, w0, w1]
  dsimp only
  have hh : headB (st, seq, 0) ((es.length : Int), 0, 0) (placeN t c b who).2 = true := by
    unfold headB
    rw [decide_eq_true (p := 0 ≤ st ∧ st ≤ 3) h4, decide_eq_true (p := 1 ≤ (es.length : Int) ∧ (es.length : Int) ≤ _) (by omega)]
    simp [wdB]
  rw [if_pos hh, Int.toNat_natCast, hu]
  dsimp only
  rw [if_pos hd]

end Go.Proofs.YtfijnpfhffhffaaDoor

namespace Go.Proofs.YtfijnpfhffhffaaDoor
set_option linter.unusedSimpArgs false
set_option linter.unusedVariables false
open Go.RowKit

theorem place_val {t c b who : Int} (h0 : -9223372036854775808 ≤ who) (h1 : who ≤ 9223372036854775807) (hm : (placeN t c b who).2 ≠ 0) :
    rightN t c b = true ∧ ((9 ≤ who ∧ who < 9 + b ∧ placeN t c b who = (fromN t c b 6 + (who - 9) * 32, 10)) ∨ (1 ≤ who ∧ who ≤ t ∧ who < 9 ∧ placeN t c b who = (fromN t c b 4 + (who - 1) * 104, 32))) := by
  by_cases h9 : 9 ≤ who
  · by_cases hn : atN t c b 6 (who - 9) 0 < 0
    · exact absurd (by simp [placeN, h9, hn]) hm
    · obtain ⟨hr, a0, a1, a2⟩ := at_pos (Int.not_lt.1 hn)
      have hp : placeN t c b who = (atN t c b 6 (who - 9) 0, 10) := by simp [placeN, h9, hn]
      simp only [manyN, szN] at a1 a2
      exact ⟨hr, .inl ⟨h9, by omega, by rw [hp, a2]⟩⟩
  · by_cases hn : atN t c b 4 (wrap64 (who - 1)) 0 < 0
    · exact absurd (by simp [placeN, h9, hn]) hm
    · obtain ⟨hr, a0, a1, a2⟩ := at_pos (Int.not_lt.1 hn)
      have hp : placeN t c b who = (atN t c b 4 (wrap64 (who - 1)) 0, 32) := by simp [placeN, h9, hn]
      simp only [manyN, szN] at a1 a2
      have hk := (right_lok hr).1
      have ht : t ≤ 8 := hk.2.1
      rcases wrap_pre h0 h1 with ⟨w0, w1⟩ | ⟨w0, w1⟩
      · rw [w1] at a1 a2
        exact ⟨hr, .inr ⟨w0, by omega, by omega, by rw [hp, w1, a2]⟩⟩
      · omega
theorem from46 {t c b : Int} (hk : Lok t c b) : fromN t c b 4 + t * 104 ≤ fromN t c b 6 := by
  obtain ⟨h1, h2, h3, h4, h5, h6⟩ := hk
  simp only [fromN, longN, manyN, szN, upN]
  simp
  split <;> omega
/-- The rooms of two owners share no location. -/
theorem rooms_apart {t c b u v : Int} (hu0 : -9223372036854775808 ≤ u) (hu1 : u ≤ 9223372036854775807) (hv0 : -9223372036854775808 ≤ v) (hv1 : v ≤ 9223372036854775807) (hne : u ≠ v)
    (hu : (placeN t c b u).2 ≠ 0) (hv : (placeN t c b v).2 ≠ 0) :
    (placeN t c b u).1 + 2 + 3 * (placeN t c b u).2 ≤ (placeN t c b v).1 ∨ (placeN t c b v).1 + 2 + 3 * (placeN t c b v).2 ≤ (placeN t c b u).1 := by
  obtain ⟨hr, hu⟩ := place_val hu0 hu1 hu
  obtain ⟨_, hv⟩ := place_val hv0 hv1 hv
  have hf := from46 (right_lok hr).1
  rcases hu with ⟨a1, a2, a3⟩ | ⟨a1, a2, a3, a4⟩ <;> rcases hv with ⟨b1, b2, b3⟩ | ⟨b1, b2, b3, b4⟩
  · rw [a3, b3]; dsimp only; omega
  · rw [a3, b4]; dsimp only; omega
  · rw [a4, b3]; dsimp only; omega
  · rw [a4, b4]; dsimp only; omega

/-- What Read reads is a valid descriptor. -/
theorem read_some {t c b who seq st : Int} {l : List Wd} {es : List En} (h : (readN t c b l who).2 = some (seq, st, es)) : (placeN t c b who).2 ≠ 0 ∧ 1 ≤ seq ∧ dcheckN t c b who seq st es = 0 := by
  unfold readN at h
  split at h
  · cases h
  · split at h
    · cases h
    · rename_i h1 h2
      split at h
      · rename_i s n hs hn
        split at h
        · split at h
          · split at h
            · rename_i es2 hu d
              simp only [Option.some.injEq, Prod.mk.injEq] at h
              obtain ⟨rfl, rfl, rfl⟩ := h
              exact ⟨h2, (dcheck_ok d).2.2.1.1, d⟩
            · cases h
          · cases h
        · cases h
      · cases h

end Go.Proofs.YtfijnpfhffhffaaDoor
