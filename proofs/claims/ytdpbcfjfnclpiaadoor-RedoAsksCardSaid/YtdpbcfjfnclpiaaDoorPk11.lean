/- Plain: the reference's Read answers as the code's Read. Plain: the reference's Read is the code's; what is laid is read again. Plain: descriptors of different owners lie apart. Arguments opened: slices of words, of entries, and of slices of entries. -/
import Derived.Test.YtdpbcfjfnclpiaaDoorPk08
import Derived.Test.YtdpbcfjfnclpiaaDoorPk10
import Derived.Test.YtdpbcfjfnclpiaaDoorPk05
import Derived.ProofKit
import Derived.Deep.Slices
import Derived.Deep.Strs
import Derived.Lib.SmallJoins
namespace Go.Proofs.YtdpbcfjfnclpiaaDoor
set_option linter.unusedSimpArgs false
set_option linter.unusedVariables false
open Go.RowKit
theorem unpack_pack_iff {x y z : Wd} (h : unpackB x y z = true) : packW (unpackE x y z) = [x, y, z] ∧ 0 ≤ x.1 ∧ x.1 < 4096 := by
 obtain ⟨x1, x2, x3⟩ := x
 obtain ⟨y1, y2, y3⟩ := y
 obtain ⟨z1, z2, z3⟩ := z
 simp only [unpackB, Bool.and_eq_true, decide_eq_true_eq] at h
 obtain ⟨⟨h1, h2⟩, ⟨⟨⟨h3, h4⟩, h5⟩, h6⟩, h7⟩ := h
 subst h4 h5 h6 h7
 refine ⟨?_, h1, h2⟩
 rcases h3 with rfl | rfl <;> rfl
theorem unpackTo_body {l : List Wd} {q : Nat} : ∀ {k : Nat} {es : List En}, unpackTo l q k = some es → ∀ i, i < 3 * k → l[q + i]? = (bodyW es)[i]?
 | 0, es, _, i, hi => by omega
 | k + 1, es, h, i, hi => by
  unfold unpackTo at h
  split at h
  ·rename_i es' x y z h1 h2 h3 h4
   split at h
   ·rename_i hb
    simp only [Option.some.injEq] at h
    subst h
    have hl := unpackTo_len h1
    have hbl := bodyW_len es'
    have hp := (unpack_pack_iff hb).1
    have hbd : bodyW (es' ++ [unpackE x y z]) = bodyW es' ++ [x, y, z] := by
     unfold bodyW; rw [List.flatMap_append]; simp [hp]
    rw [hbd]
    by_cases hi3 : i < 3 * k
    ·rw [List.getElem?_append_left (by omega)]
     exact unpackTo_body h1 i hi3
    ·rw [List.getElem?_append_right (by omega), hbl, hl]
     have hc : i = 3 * k ∨ i = 3 * k + 1 ∨ i = 3 * k + 2 := by omega
     rcases hc with rfl | rfl | rfl
     ·rw [h2]; simp
     ·rw [← Nat.add_assoc, h3]; simp
     ·rw [← Nat.add_assoc, h4]; simp
   ·cases h
  ·cases h
def sameTo (l X : List Wd) (p : Nat) : Nat → Bool
 | 0 => true
 | k + 1 => sameTo l X p k && (match l[p + k]?, X[k]? with | some a, some b => wdB a b | _, _ => true)
theorem sameTo_at {l X : List Wd} {p k : Nat} {a b : Wd} (ha : l[p + k]? = some a) (hb : X[k]? = some b) : sameTo l X p (k + 1) = (sameTo l X p k && wdB a b) := by
 simp only [sameTo, ha, hb]
theorem sameTo_no {l X : List Wd} {p j : Nat} (h : sameTo l X p j = false) : ∀ m, sameTo l X p (j + m) = false
 | 0 => h
 | m + 1 => by rw [← Nat.add_assoc, sameTo, sameTo_no h m]; rfl
theorem sameTo_iff {l X : List Wd} {p : Nat} : ∀ {k : Nat}, sameTo l X p k = true ↔ ∀ i, i < k → ∀ a b, l[p + i]? = some a → X[i]? = some b → a = b
 | 0 => by simp [sameTo]
 | k + 1 => by
  rw [sameTo, Bool.and_eq_true, sameTo_iff]
  constructor
  ·rintro ⟨h1, h2⟩ i hi a b ha hb
   by_cases hik : i = k
   ·subst hik
    rw [ha, hb] at h2
    exact of_decide_eq_true h2
   ·exact h1 i (by omega) a b ha hb
  ·intro h
   refine ⟨fun i hi a b ha hb => h i (by omega) a b ha hb, ?_⟩
   split
   ·rename_i a b ha hb; exact decide_eq_true (h k (by omega) a b ha hb)
   ·rfl
def stN (x : Int) : Int := if 0 ≤ x ∧ x ≤ 3 then x else -1
def fitsB (T B sl rm : Int) (ws : List Bool) (who seq st : Int) (es : List En) : Bool :=
 decide (0 ≤ (rplaceN T B sl rm who).1) && decide (1 ≤ seq ∧ seq ≤ 16777215) && decide (0 ≤ st ∧ st ≤ 3) && decide ((es.length : Int) ≤ (rplaceN T B sl rm who).2) && rightB es && es.all (fun e => rmayB ws e.loc)
def rreadO (T B sl rm : Int) (ws : List Bool) (l : List Wd) (who : Int) : Option (Int × Int × List En) :=
 if (rplaceN T B sl rm who).1 < 0 then none
 else match l[(rplaceN T B sl rm who).1.toNat]?, l[(rplaceN T B sl rm who).1.toNat + 1]? with
  | some s, some n => if n.1 < 1 ∨ (rplaceN T B sl rm who).2 < n.1 then none
   else match unpackTo l ((rplaceN T B sl rm who).1.toNat + 2) n.1.toNat with
    | some es => if sameTo l (wordsW s.2.1 (stN s.1) es) (rplaceN T B sl rm who).1.toNat (2 + 3 * n.1.toNat) = true ∧ fitsB T B sl rm ws who s.2.1 (stN s.1) es = true then some (s.2.1, stN s.1, es) else none
    | none => none
  | _, _ => none
theorem may_bds {t c b p : Int} (h : mayN t c b p = true) : rightN t c b = true ∧ 0 ≤ p ∧ p < sizeN t c b := by
 unfold mayN at h
 rw [Bool.and_eq_true] at h
 obtain ⟨hr, h⟩ := h
 have hk := (right_lok hr).1
 have h7 := from_le7 hk
 have m2 : fromN t c b 2 ≤ fromN t c b 3 := from_mono hk 2
 have m3 : fromN t c b 3 ≤ fromN t c b 4 := from_mono hk 3
 have m0 : fromN t c b 0 ≤ fromN t c b 1 := from_mono hk 0
 have m1 : fromN t c b 1 ≤ fromN t c b 2 := from_mono hk 1
 have f0 : fromN t c b 0 = 0 := rfl
 have hs : sizeN t c b = fromN t c b 7 := by unfold sizeN; rw [if_pos hr]
 have hc : fromN t c b 3 + c ≤ fromN t c b 4 := by
  obtain ⟨h1, h2, h3, h4, h5, h6⟩ := hk
  simp only [fromN, longN, manyN, szN, upN]
  simp
  omega
 have ht : 0 ≤ t * 104 := by
  obtain ⟨h1, h2, h3, h4, h5, h6⟩ := hk
  omega
 refine ⟨hr, ?_⟩
 rw [hs]
 rw [Bool.or_eq_true, decide_eq_true_eq, decide_eq_true_eq] at h
 rcases h with h | h <;> constructor <;> omega
theorem rmay_law {T C B sz : Nat} (hsz : (sz : Int) = sizeN T C B) (p : Int) : rmayB (mayL T C B sz) p = mayN T C B p := by
 unfold rmayB
 rw [mayL_len]
 by_cases h : 0 ≤ p ∧ p < (sz : Int)
 ·obtain ⟨n, rfl⟩ := Int.eq_ofNat_of_zero_le h.1
  have hn : n < sz := by omega
  rw [decide_eq_true h, Int.toNat_natCast, List.getD_eq_getElem?_getD]
  simp [mayL, hn]
 ·rw [decide_eq_false h]
  cases hm : mayN T C B p
  ·rfl
  ·have := (may_bds hm).2
   rw [← hsz] at this
   omega
theorem fits_law {T C B sl rm sz : Nat} (hr : rightN T C B = true) (hT : T ≤ 8) (hsl : (sl : Int) = fromN T C B 4) (hrm : (rm : Int) = if 0 < B then fromN T C B 6 else 0) (hsz : (sz : Int) = sizeN T C B) (who seq st : Int) (h0 : -9223372036854775808 ≤ who) (h1 : who ≤ 9223372036854775807) (es : List En) :
 fitsB T B sl rm (mayL T C B sz) who seq st es = true ↔ dcheckN T C B who seq st es = 0 := by
 have hck : checkN T C B = 0 := by
  by_cases h : checkN T C B = 0
  ·exact h
  ·unfold rightN at hr; simp [h] at hr
 have hm : es.all (fun e => rmayB (mayL T C B sz) e.loc) = mayAll T C B es := by
  unfold mayAll; congr 1; funext e; exact rmay_law hsz e.loc
 unfold fitsB
 rw [place_law hr hT hsl hrm who h0 h1, hm]
 constructor
 ·intro h
  simp only [Bool.and_eq_true, decide_eq_true_eq] at h
  obtain ⟨⟨⟨⟨⟨a1, a2⟩, a3⟩, a4⟩, a5⟩, a6⟩ := h
  obtain ⟨a7, a8⟩ := (right_iff es).1 a5
  have a9 : (placeN T C B who).2 ≠ 0 := by
   intro h; have := place_neg h; rw [this] at a1; omega
  unfold dcheckN
  rw [if_neg (by rw [hck]; simp), if_neg a9, if_neg (by omega), if_neg (by omega), if_neg (by rw [a7]; simp), if_neg (by rw [a8]; simp), if_neg (by rw [a6]; simp), if_neg (by omega)]
 ·intro h
  obtain ⟨_, a2, a3, a4, a5, a6, a7, a8⟩ := dcheck_ok h
  have a9 := place_room a2
  simp only [Bool.and_eq_true, decide_eq_true_eq]
  exact ⟨⟨⟨⟨⟨a9.1, a3⟩, a4⟩, a8⟩, (right_iff es).2 ⟨a5, a6⟩⟩, a7⟩
end Go.Proofs.YtdpbcfjfnclpiaaDoor
namespace Go.Proofs.YtdpbcfjfnclpiaaDoor
set_option linter.unusedSimpArgs false
set_option linter.unusedVariables false
open Go.RowKit
theorem wordsW_0 (seq st : Int) (es : List En) : (wordsW seq st es)[0]? = some (st, seq, 0) := rfl
theorem wordsW_1 (seq st : Int) (es : List En) : (wordsW seq st es)[1]? = some ((es.length : Int), 0, 0) := rfl
theorem wordsW_2 (seq st : Int) (es : List En) (i : Nat) : (wordsW seq st es)[i + 2]? = (bodyW es)[i]? := by
 unfold wordsW
 rw [List.getElem?_append_right (by simp)]; simp
theorem same_words {l : List Wd} {p k : Nat} {s n : Wd} {seq st : Int} {es : List En} (hs : l[p]? = some s) (hn : l[p + 1]? = some n) (hu : unpackTo l (p + 2) k = some es) :
 sameTo l (wordsW seq st es) p (2 + 3 * k) = true ↔ s = (st, seq, 0) ∧ n = ((k : Int), 0, 0) := by
 have hl := unpackTo_len hu
 rw [sameTo_iff]
 constructor
 ·intro h
  refine ⟨h 0 (by omega) s _ hs (wordsW_0 _ _ _), ?_⟩
  have := h 1 (by omega) n _ hn (wordsW_1 seq st es)
  rw [this, hl]
 ·rintro ⟨h1, h2⟩ i hi a b ha hb
  match i, hi with
  | 0, _ => rw [Nat.add_zero, hs] at ha; rw [wordsW_0] at hb; cases ha; cases hb; exact h1
  | 1, _ => rw [hn] at ha; rw [wordsW_1, hl] at hb; cases ha; cases hb; exact h2
  | i + 2, hi =>
   rw [wordsW_2, ← unpackTo_body hu i (by omega)] at hb
   rw [show p + (i + 2) = p + 2 + i by omega] at ha
   rw [ha] at hb
   cases hb; rfl
theorem readN_ok {t c b : Int} {l : List Wd} (h1 : checkN t c b = 0) (h2 : ¬ (l.length : Int) < sizeN t c b) (who : Int) : readN t c b l who = if (placeN t c b who).2 = 0 then ((3 : Int), none)
 else match l[(placeN t c b who).1.toNat]?, l[(placeN t c b who).1.toNat + 1]? with
  | some s, some n => if headB s n (placeN t c b who).2 = true then
   (match unpackTo l ((placeN t c b who).1.toNat + 2) n.1.toNat with
    | some es => if dcheckN t c b who s.2.1 s.1 es = 0 then ((0 : Int), some (s.2.1, s.1, es)) else ((5 : Int), none)
    | none => ((5 : Int), none))
   else ((5 : Int), none)
  | _, _ => ((5 : Int), none) := by
 unfold readN
 rw [if_neg (by rintro (h | h); exact h h1; exact h2 h)]
 rfl
theorem rread_law {T C B sl rm sz : Nat} (hr : rightN T C B = true) (hT : T ≤ 8) (hsl : (sl : Int) = fromN T C B 4) (hrm : (rm : Int) = if 0 < B then fromN T C B 6 else 0) (hsz : (sz : Int) = sizeN T C B) (l : List Wd) (hl : l.length = sz) (who : Int) (h0 : -9223372036854775808 ≤ who) (h1 : who ≤ 9223372036854775807) :
 rreadO T B sl rm (mayL T C B sz) l who = (readN T C B l who).2 := by
 have hck : checkN T C B = 0 := by
  by_cases h : checkN T C B = 0
  ·exact h
  ·unfold rightN at hr; simp [h] at hr
 have hF := fun seq st es => fits_law hr hT hsl hrm hsz who seq st h0 h1 es
 have hRN := readN_ok hck (show ¬ (l.length : Int) < sizeN T C B by omega) who
 unfold rreadO
 rw [place_law hr hT hsl hrm who h0 h1, hRN]
 by_cases hpm : (placeN T C B who).2 = 0
 ·rw [if_pos hpm, place_neg hpm, if_pos (by decide)]
 ·have hroom := place_room hpm
  have hbd := place_bd T C B who
  rw [if_neg (show ¬ (placeN T C B who).1 < 0 by omega), if_neg hpm]
  obtain ⟨s, hs⟩ : ∃ s, l[(placeN T C B who).1.toNat]? = some s := ⟨_, List.getElem?_eq_getElem (by omega)⟩
  obtain ⟨n, hn⟩ : ∃ s, l[(placeN T C B who).1.toNat + 1]? = some s := ⟨_, List.getElem?_eq_getElem (by omega)⟩
  rw [hs, hn]
  dsimp only
  by_cases hc : n.1 < 1 ∨ (placeN T C B who).2 < n.1
  ·have hh : headB s n (placeN T C B who).2 = false := by
    unfold headB
    rw [decide_eq_false (p := 1 ≤ n.1 ∧ n.1 ≤ _) (by omega)]
    simp
   rw [if_pos hc, hh]; rfl
  ·rw [if_neg hc]
   obtain ⟨k, hk⟩ := Int.eq_ofNat_of_zero_le (show 0 ≤ n.1 by omega)
   rw [hk, Int.toNat_natCast]
   cases hu : unpackTo l ((placeN T C B who).1.toNat + 2) k with
   | none => dsimp only; split <;> rfl
   | some es =>
    dsimp only
    have hsm := same_words (seq := s.2.1) (st := stN s.1) hs hn hu
    by_cases hy : (s = (stN s.1, s.2.1, 0) ∧ n = ((k : Int), 0, 0)) ∧ fitsB T B sl rm (mayL T C B sz) who s.2.1 (stN s.1) es = true
    ·obtain ⟨⟨e1, e2⟩, e3⟩ := hy
     have d := (hF _ _ _).1 e3
     have hst := (dcheck_ok d).2.2.2.1
     have e4 : stN s.1 = s.1 := (congrArg Prod.fst e1).symm
     have e5 : s.2.2 = 0 := congrArg (fun a => a.2.2) e1
     rw [e4] at d hst
     have hh : headB s n (placeN T C B who).2 = true := by
      unfold headB
      rw [decide_eq_true (p := 0 ≤ s.1 ∧ s.1 ≤ 3) hst, decide_eq_true e5, decide_eq_true (p := 1 ≤ n.1 ∧ n.1 ≤ _) (by omega), e2]
      exact wdB_self _
     rw [if_pos ⟨hsm.2 ⟨e1, e2⟩, e3⟩, hh, if_pos rfl, if_pos d, e4]
    ·rw [if_neg (fun h => hy ⟨hsm.1 h.1, h.2⟩)]
     split
     ·rename_i hh
      split
      ·rename_i d
       exfalso
       apply hy
       unfold headB at hh
       simp only [Bool.and_eq_true, decide_eq_true_eq, wdB] at hh
       obtain ⟨g1, ⟨g2, _⟩, g3⟩ := hh
       have e4 : stN s.1 = s.1 := by unfold stN; rw [if_pos g1]
       rw [e4]
       refine ⟨⟨?_, by rw [← hk]; exact g3⟩, (hF _ _ _).2 d⟩
       obtain ⟨s1, s2, s3⟩ := s
       simp only at g2
       rw [g2]
      ·rfl
     ·rfl
end Go.Proofs.YtdpbcfjfnclpiaaDoor
namespace Go.Proofs.YtdpbcfjfnclpiaaDoor
set_option linter.unusedSimpArgs false
set_option linter.unusedVariables false
open Go.RowKit
theorem place_val {t c b who : Int} (h0 : -9223372036854775808 ≤ who) (h1 : who ≤ 9223372036854775807) (hm : (placeN t c b who).2 ≠ 0) :
 rightN t c b = true ∧ ((9 ≤ who ∧ who < 9 + b ∧ placeN t c b who = (fromN t c b 6 + (who - 9) * 32, 10)) ∨ (1 ≤ who ∧ who ≤ t ∧ who < 9 ∧ placeN t c b who = (fromN t c b 4 + (who - 1) * 104, 32))) := by
 by_cases h9 : 9 ≤ who
 ·by_cases hn : atN t c b 6 (who - 9) 0 < 0
  ·exact absurd (by simp [placeN, h9, hn]) hm
  ·obtain ⟨hr, a0, a1, a2⟩ := at_pos (Int.not_lt.1 hn)
   have hp : placeN t c b who = (atN t c b 6 (who - 9) 0, 10) := by simp [placeN, h9, hn]
   simp only [manyN, szN] at a1 a2
   exact ⟨hr, .inl ⟨h9, by omega, by rw [hp, a2]⟩⟩
 ·by_cases hn : atN t c b 4 (wrap64 (who - 1)) 0 < 0
  ·exact absurd (by simp [placeN, h9, hn]) hm
  ·obtain ⟨hr, a0, a1, a2⟩ := at_pos (Int.not_lt.1 hn)
   have hp : placeN t c b who = (atN t c b 4 (wrap64 (who - 1)) 0, 32) := by simp [placeN, h9, hn]
   simp only [manyN, szN] at a1 a2
   have hk := (right_lok hr).1
   have ht : t ≤ 8 := hk.2.1
   rcases wrap_pre h0 h1 with ⟨w0, w1⟩ | ⟨w0, w1⟩
   ·rw [w1] at a1 a2
    exact ⟨hr, .inr ⟨w0, by omega, by omega, by rw [hp, w1, a2]⟩⟩
   ·omega
theorem read_some {t c b who seq st : Int} {l : List Wd} {es : List En} (h : (readN t c b l who).2 = some (seq, st, es)) : (placeN t c b who).2 ≠ 0 ∧ 1 ≤ seq ∧ dcheckN t c b who seq st es = 0 := by
 unfold readN at h
 split at h
 ·cases h
 ·split at h
  ·cases h
  ·rename_i h1 h2
   split at h
   ·rename_i s n hs hn
    split at h
    ·split at h
     ·split at h
      ·rename_i es2 hu d
       simp only [Option.some.injEq, Prod.mk.injEq] at h
       obtain ⟨rfl, rfl, rfl⟩ := h
       exact ⟨h2, (dcheck_ok d).2.2.1.1, d⟩
      ·cases h
     ·cases h
    ·cases h
   ·cases h
end Go.Proofs.YtdpbcfjfnclpiaaDoor
namespace Go.Proofs.YtdpbcfjfnclpiaaDoor
set_option linter.unusedSimpArgs false
set_option linter.unusedVariables false
open Go.ChangeShapes Go.WideShapes Go.RowKit Go.Deep Go.Joins
theorem exists_list {α : Type} {p : Nat → α → Prop} : ∀ n : Nat, (∀ i, i < n → ∃ x, p i x) → ∃ l : List α, l.length = n ∧ ∀ i x, l[i]? = some x → p i x
 | 0, _ => ⟨[], rfl, fun i x h => by simp at h⟩
 | n + 1, h => by
  obtain ⟨l, hl, hp⟩ := exists_list n (fun i hi => h i (by omega))
  obtain ⟨x, hx⟩ := h n (by omega)
  refine ⟨l ++ [x], by simp [hl], fun i y hy => ?_⟩
  by_cases hi : i < n
  ·rw [List.getElem?_append_left (by omega)] at hy
   exact hp i y hy
  ·rw [List.getElem?_append_right (by omega)] at hy
   have : i = n := by
    by_cases h2 : i - l.length = 0
    ·omega
    ·rw [List.getElem?_eq_none (by simp; omega)] at hy; cases hy
   subst this
   rw [hl, Nat.sub_self] at hy
   simp at hy
   subst hy
   exact hx
theorem cell_lt {w : World} {a : Addr} {v : Value} (h : w.cell? a = some v) : a.block < w.heap.size := by
 unfold World.cell? at h
 split at h
 ·rename_i hk
  exact (Array.getElem?_eq_some_iff.1 hk).1
 ·cases h
section
variable {H : Type} {enc : TypeId × Value → H} {P : Program} {w : World} {base : Nat} {spare : Nat → Bool} {held : Bool}
theorem sl_of_trod {α : Type} {size : Nat} {en : α → List Value} {Ok : α → Prop} {t e : TypeId} {fuel : Nat} {cs : List Value} {x : DataW H × List MemPlace}
 (ht : P.underlying t = some (.slice e)) (hC : P.cellsOf e = size) (hs0 : 0 < size) (hlen : ∀ x, (en x).length = size)
 (hel : ∀ (n : Nat) (cs : List Value) (x : DataW H × List MemPlace), DataW.trod enc P w base spare held n e cs = some x → ∃ a, Ok a ∧ cs = en a)
 (h : DataW.trod enc P w base spare held fuel t cs = some x) : ∃ v l, cs = [v] ∧ Sl w size en v l ∧ ∀ a ∈ l, Ok a := by
 rcases open_slice ht h with ⟨rfl, rfl⟩ | ⟨a, len, cap, m, n, D, Pl, rfl, hb, hl, hm, hmm, rfl, hx⟩
 ·exact ⟨_, [], rfl, Sl.nil, by simp⟩
 have hlm : len ≤ m := by rw [hmm]; split <;> omega
 rw [hC] at hx
 obtain ⟨l, hll, hp⟩ := exists_list (p := fun i y => Ok y ∧ ∀ j, j < size → w.cell? ((a.add (i * size)).add j) = (en y)[j]?) len (fun i hi => by
  obtain ⟨cs', h1, h2⟩ := hx i (by omega)
  obtain ⟨y, hy, rfl⟩ := hel _ _ _ h2
  exact ⟨y, hy, (World.cells?_some h1).2.2⟩)
 subst hll
 refine ⟨_, l, rfl, ⟨some a, cap, rfl, ⟨by unfold maxLen at hm; omega, hl⟩, fun hn => ?_⟩, fun y hy => ?_⟩
 ·have h0 : 0 < l.length := List.length_pos_iff.2 hn
  obtain ⟨_, h1⟩ := hp 0 _ (List.getElem?_eq_getElem h0)
  have h2 := h1 0 hs0
  rw [Nat.zero_mul] at h2
  have ha0 : (a.add 0).add 0 = a := by simp [Addr.add]
  rw [ha0, List.getElem?_eq_getElem (by rw [hlen]; exact hs0)] at h2
  have hsp := World.cell?_spot h2
  obtain ⟨b, o, s⟩ := a
  dsimp only at hsp
  subst hsp
  refine ⟨b, o, rfl, cell_lt h2, fun i y hy j hj => ?_⟩
  have h3 := (hp i y hy).2 j hj
  have hadd : ∀ (o k : Nat), (⟨b, o, none⟩ : Addr).add k = ⟨b, o + k, none⟩ := by intro o k; unfold Addr.add; split <;> simp_all
  rw [hadd, hadd] at h3
  exact h3
 ·obtain ⟨i, hi⟩ := List.mem_iff_getElem?.1 hy
  exact (hp i y hi).1
end
section
variable {H : Type} {enc : TypeId × Value → H} {w : World} {base : Nat} {spare : Nat → Bool} {held : Bool}
theorem wf_u32 {x : Int} (h : (Lit.int .u32 x).wf = true) : 0 ≤ x ∧ x ≤ 4294967295 := by
 have h1 : IntKind.u32.min = 0 := rfl
 have h2 : IntKind.u32.max = 4294967295 := rfl
 simp only [Lit.wf, Bool.and_eq_true, decide_eq_true_eq] at h
 omega
theorem wf_i64 {x : Int} (h : (Lit.int .i64 x).wf = true) : -9223372036854775808 ≤ x ∧ x ≤ 9223372036854775807 := by
 have h1 : IntKind.i64.min = -9223372036854775808 := rfl
 have h2 : IntKind.i64.max = 9223372036854775807 := rfl
 simp only [Lit.wf, Bool.and_eq_true, decide_eq_true_eq] at h
 omega
def WdOk (x : Wd) : Prop := (-9223372036854775808 ≤ x.1 ∧ x.1 ≤ 9223372036854775807) ∧ (0 ≤ x.2.1 ∧ x.2.1 ≤ 4294967295) ∧ (0 ≤ x.2.2 ∧ x.2.2 ≤ 4294967295)
set_option maxRecDepth 100000 in
theorem word_of_trod (n : Nat) (cs : List Value) (x : DataW H × List MemPlace) (h : DataW.trod enc Tryd.prog w base spare held n 40 cs = some x) : ∃ a, WdOk a ∧ cs = wdE a := by
 obtain ⟨y0, y1, y2, n', -, hl, h0, h1, h2⟩ := trod_struct3 Tryd.underlying40 h
 have hl3 : cs.length = 3 := hl
 match cs, hl3 with
 | [c0, c1, c2], _ =>
  obtain ⟨a0, e0, -, w0⟩ := DataW.trod_int (k := .i64) Tryd.underlying2 h0
  obtain ⟨a1, e1, -, w1⟩ := DataW.trod_int (k := .u32) Tryd.underlying38 h1
  obtain ⟨a2, e2, -, w2⟩ := DataW.trod_int (k := .u32) Tryd.underlying38 h2
  cases e0
  cases e1
  cases e2
  exact ⟨(a0, a1, a2), ⟨wf_i64 w0, wf_u32 w1, wf_u32 w2⟩, rfl⟩
end
end Go.Proofs.YtdpbcfjfnclpiaaDoor
