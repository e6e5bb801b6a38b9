/- The walk of package desc's Logical. -/
import Derived.Test.YtojcojghnhibmaaDoorDescM
namespace Go.Proofs.YtojcojghnhibmaaDoor
open Go.RowKit

/-- Plain: the written entry for a location: its new value. -/
def findW (p : Int) : List En → Option Int
  | [] => none
  | e :: r => if e.loc = p ∧ e.wr = true then some e.new else findW p r
theorem findW_at {p : Int} {l : List En} {j : Nat} {e : En} (h : l[j]? = some e) : findW p (l.drop j) = if e.loc = p ∧ e.wr = true then some e.new else findW p (l.drop (j + 1)) := by
  obtain ⟨hj, hk⟩ := List.getElem?_eq_some_iff.1 h
  rw [List.drop_eq_getElem_cons hj, hk]; rfl
/-- Plain: the word with the new value, or as it is. -/
def outW (x1 x2 : Int) : Option Int → Wd
  | some v => (v, (x2 + 1) % 4294967296, 0)
  | none => (x1, x2, 0)
/-- Plain: the logical word that a stored word x at p has. -/
def logicW (t c b : Int) (l : List Wd) (x : Wd) (p : Int) : Wd :=
  if (whoN x.2.2).1 = 0 then (x.1, x.2.1, 0) else match (readN t c b l (whoN x.2.2).1).2 with
    | none => (x.1, x.2.1, 0)
    | some (seq, st, es) => if seq = (whoN x.2.2).2 ∧ st = 1 then outW x.1 x.2.1 (findW p es) else (x.1, x.2.1, 0)
/-- Plain: what Logical answers: the word and the error. -/
def logicN (t c b : Int) (l : List Wd) (p : Int) : Wd × Int :=
  if checkN t c b ≠ 0 ∨ (l.length : Int) < sizeN t c b then ((0, 0, 0), 1) else if mayN t c b p = false then ((0, 0, 0), 10)
  else match l[p.toNat]? with | some x => (logicW t c b l x p, 0) | none => ((0, 0, 0), 0)

theorem may_bd {t c b p : Int} (h : mayN t c b p = true) : rightN t c b = true ∧ 0 ≤ p ∧ p < sizeN t c b := by
  unfold mayN at h
  rw [Bool.and_eq_true] at h
  obtain ⟨hr, h⟩ := h
  have hk := (right_lok hr).1
  have h7 := from_le7 hk
  have m2 : fromN t c b 2 ≤ fromN t c b 3 := from_mono hk 2
  have m3 : fromN t c b 3 ≤ fromN t c b 4 := from_mono hk 3
  have m0 : fromN t c b 0 ≤ fromN t c b 1 := from_mono hk 0
  have m1 : fromN t c b 1 ≤ fromN t c b 2 := from_mono hk 1
  have f0 : fromN t c b 0 = 0 := rfl
  have hs : sizeN t c b = fromN t c b 7 := by unfold sizeN; rw [if_pos hr]
  have hc : fromN t c b 3 + c ≤ fromN t c b 4 := by
    obtain ⟨h1, h2, h3, h4, h5, h6⟩ := hk
    simp only [fromN, longN, manyN, szN, upN]
    simp
    omega
  have ht : 0 ≤ t * 104 := by
    obtain ⟨h1, h2, h3, h4, h5, h6⟩ := hk
    omega
  refine ⟨hr, ?_⟩
  rw [hs]
  rw [Bool.or_eq_true, decide_eq_true_eq, decide_eq_true_eq] at h
  rcases h with h | h <;> constructor <;> omega
theorem readN_none {t c b who : Int} {l : List Wd} (h : (readN t c b l who).2 = none) (hr : rightN t c b = true) : (readN t c b l who).1 ≠ 0 := by
  unfold readN at h ⊢
  split
  · simp
  · split
    · simp
    · rename_i h1 h2
      rw [if_neg h1, if_neg h2] at h
      split
      · rename_i s n hs hn
        rw [hs, hn] at h
        dsimp only at h
        split
        · rename_i h3
          rw [if_pos h3] at h
          split
          · rename_i es he
            rw [he] at h
            dsimp only at h
            split
            · rename_i h4
              rw [if_pos h4] at h
              cases h
            · simp
          · simp
        · simp
      · simp

end Go.Proofs.YtojcojghnhibmaaDoor
