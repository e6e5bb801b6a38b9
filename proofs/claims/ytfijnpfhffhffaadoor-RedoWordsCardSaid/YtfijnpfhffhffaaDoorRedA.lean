/- Plain: what recovery makes of the words: words put at places, one after the other; the places of a layout. -/
import Derived.Test.YtfijnpfhffhffaaDoorSlD
namespace Go.Proofs.YtfijnpfhffhffaaDoor
set_option linter.unusedSimpArgs false
set_option linter.unusedVariables false
open Go.RowKit

/-- Plain: the word that g gives for the place p is put there, if it gives one. -/
def put1 (g : Nat → Option Wd) (L : List Wd) (p : Nat) : List Wd := match g p with | some x => L.set p x | none => L
def putF (g : Nat → Option Wd) : List Wd → List Nat → List Wd
  | L, [] => L
  | L, p :: ps => putF g (put1 g L p) ps
theorem put1_len (g : Nat → Option Wd) (L : List Wd) (p : Nat) : (put1 g L p).length = L.length := by
  unfold put1; split <;> simp
theorem putF_len (g : Nat → Option Wd) : ∀ (ps : List Nat) (L : List Wd), (putF g L ps).length = L.length
  | [], _ => rfl
  | p :: ps, L => by rw [putF, putF_len g ps, put1_len]
theorem putF_snoc (g : Nat → Option Wd) : ∀ (ps : List Nat) (L : List Wd) (p : Nat), putF g L (ps ++ [p]) = put1 g (putF g L ps) p
  | [], _, _ => rfl
  | q :: ps, L, p => by rw [List.cons_append, putF, putF, putF_snoc g ps]
theorem putF_take {g : Nat → Option Wd} {L : List Wd} {ps : List Nat} {k p : Nat} (h : ps[k]? = some p) : putF g L (ps.take (k + 1)) = put1 g (putF g L (ps.take k)) p := by
  obtain ⟨h1, h2⟩ := List.getElem?_eq_some_iff.1 h
  rw [List.take_succ_eq_append_getElem h1, h2, putF_snoc]
theorem put1_get (g : Nat → Option Wd) (L : List Wd) (p i : Nat) (hi : i < L.length) : (put1 g L p)[i]? = if i = p then (g p).or L[i]? else L[i]? := by
  unfold put1
  split
  · rename_i x hx
    by_cases h : i = p
    · subst h; rw [List.getElem?_set_self hi, if_pos rfl, hx]; rfl
    · rw [List.getElem?_set_ne (fun e => h e.symm), if_neg h]
  · rename_i hx
    by_cases h : i = p
    · rw [if_pos h, hx]; rfl
    · rw [if_neg h]
theorem putF_get (g : Nat → Option Wd) : ∀ (ps : List Nat) (L : List Wd) (i : Nat), i < L.length → (putF g L ps)[i]? = if i ∈ ps then (g i).or L[i]? else L[i]?
  | [], _, _, _ => by simp [putF]
  | p :: ps, L, i, hi => by
    rw [putF, putF_get g ps _ i (by rw [put1_len]; exact hi), put1_get g L p i hi]
    by_cases h : i = p
    · subst h
      rw [if_pos rfl, if_pos (List.mem_cons_self ..)]
      by_cases h2 : i ∈ ps
      · rw [if_pos h2]; cases g i <;> rfl
      · rw [if_neg h2]
    · rw [if_neg h]
      by_cases h2 : i ∈ ps
      · rw [if_pos h2, if_pos (List.mem_cons_of_mem _ h2)]
      · rw [if_neg h2, if_neg (by simp [h, h2])]
theorem put1_ok {g : Nat → Option Wd} {L : List Wd} {p : Nat} (hL : ∀ a ∈ L, WdOk a) (hg : ∀ p x, g p = some x → WdOk x) : ∀ a ∈ put1 g L p, WdOk a := by
  unfold put1
  split
  · rename_i x hx; exact set_ok hL (hg _ _ hx) _
  · exact hL
theorem putF_ok {g : Nat → Option Wd} (hg : ∀ p x, g p = some x → WdOk x) : ∀ (ps : List Nat) (L : List Wd), (∀ a ∈ L, WdOk a) → ∀ a ∈ putF g L ps, WdOk a
  | [], _, hL => hL
  | p :: ps, L, hL => by rw [putF]; exact putF_ok hg ps _ (put1_ok hL hg)

/-- Plain: the places that a swap may reach, those of the status words, those of announced eras and hazards. -/
def maysTo (t c b : Int) (n : Nat) : List Nat := (List.range n).filter (fun p => mayN t c b p)
def maysL (t c b : Int) : List Nat := maysTo t c b (sizeN t c b).toNat
def slotTo (t c b : Int) (n : Nat) : List Nat := (List.range n).map (fun k : Nat => (atN t c b 4 k 0).toNat)
def blockTo (t c b : Int) (n : Nat) : List Nat := (List.range n).map (fun k : Nat => (atN t c b 6 k 0).toNat)
def statsL (t c b : Int) : List Nat := slotTo t c b t.toNat ++ blockTo t c b b.toNat
def ownTo (t c b : Int) (n : Nat) : List Nat := (List.range n).flatMap (fun k : Nat => [(atN t c b 1 k 0).toNat, (atN t c b 1 k 1).toNat])
def ownsL (t c b : Int) : List Nat := ownTo t c b t.toNat
theorem maysTo_yes {t c b : Int} {n : Nat} (h : mayN t c b n = true) : maysTo t c b (n + 1) = maysTo t c b n ++ [n] := by
  unfold maysTo; rw [List.range_succ, List.filter_append]; simp [h]
theorem maysTo_no {t c b : Int} {n : Nat} (h : mayN t c b n = false) : maysTo t c b (n + 1) = maysTo t c b n := by
  unfold maysTo; rw [List.range_succ, List.filter_append]; simp [h]
theorem slotTo_succ (t c b : Int) (n : Nat) : slotTo t c b (n + 1) = slotTo t c b n ++ [(atN t c b 4 n 0).toNat] := by
  unfold slotTo; rw [List.range_succ, List.map_append]; rfl
theorem blockTo_succ (t c b : Int) (n : Nat) : blockTo t c b (n + 1) = blockTo t c b n ++ [(atN t c b 6 n 0).toNat] := by
  unfold blockTo; rw [List.range_succ, List.map_append]; rfl
theorem ownTo_succ (t c b : Int) (n : Nat) : ownTo t c b (n + 1) = ownTo t c b n ++ [(atN t c b 1 n 0).toNat, (atN t c b 1 n 1).toNat] := by
  unfold ownTo; rw [List.range_succ, List.flatMap_append]; simp
theorem maysL_lt {t c b : Int} {p : Nat} (h : p ∈ maysL t c b) : mayN t c b p = true ∧ (p : Int) < sizeN t c b := by
  unfold maysL maysTo at h
  rw [List.mem_filter, List.mem_range] at h
  exact ⟨h.2, by omega⟩
theorem maysL_mem {t c b : Int} {p : Nat} (h : mayN t c b p = true) : p ∈ maysL t c b := by
  have h2 := (may_bd h).2.2
  unfold maysL maysTo
  rw [List.mem_filter, List.mem_range]
  exact ⟨by omega, h⟩
/-- A place of a part lies in the image. -/
theorem atN_lt {t c b : Int} {p : Nat} {i more : Int} (hr : rightN t c b = true) (hp : p < 7) (hi : 0 ≤ i ∧ i < manyN t c b p) (hm : 0 ≤ more ∧ more < (if p = 1 then 8 else 1)) (hz : p ≠ 0 ∧ p ≠ 5) : 0 ≤ atN t c b p i more ∧ atN t c b p i more < sizeN t c b := by
  have hk := (right_lok hr).1
  have h7 := from_le7 hk
  obtain ⟨k1, k2, k3, k4, k5, k6⟩ := hk
  have hs : sizeN t c b = fromN t c b 7 := by unfold sizeN; rw [if_pos hr]
  rw [hs]
  have e : atN t c b p i more = fromN t c b p + i * szN p + more := by
    unfold atN; rw [if_pos ⟨hr, hi.1, hi.2⟩]
  rw [e]
  have hc : p = 1 ∨ p = 2 ∨ p = 3 ∨ p = 4 ∨ p = 6 := by omega
  rcases hc with rfl | rfl | rfl | rfl | rfl <;> simp [manyN, szN] at hi hm ⊢ <;> simp only [fromN, longN, manyN, szN, upN] <;> simp <;> (try split) <;> omega

/-- Plain: a status that is not decided. -/
def undB (x : Wd) : Bool := decide (x.1 = 0) || decide (x.1 = 3)
def logG (f : Nat → Wd) (p : Nat) : Option Wd := some (f p)
def statG (L : List Wd) (p : Nat) : Option Wd := match L[p]? with | some x => if undB x = true then some (2, x.2.1, 0) else none | none => none
def zeroG (_ : Nat) : Option Wd := some (0, 0, 0)
/-- Plain: the recovered words. -/
def redoW (f : Nat → Wd) (L : List Wd) (ms ss os : List Nat) : List Wd := putF zeroG (putF (statG L) (putF (logG f) L ms) ss) os
def redoL (t c b : Int) (L : List Wd) : List Wd := redoW (fun p => (logicN t c b (L.take (sizeN t c b).toNat) p).1) L (maysL t c b) (statsL t c b) (ownsL t c b)
/-- Plain: what redo.Words answers. -/
def redoN (t c b : Int) (L : List Wd) : List Wd × Int := if checkN t c b ≠ 0 ∨ (L.length : Int) < sizeN t c b then ([], 1) else (redoL t c b L, 0)
theorem redoW_len (f : Nat → Wd) (L : List Wd) (ms ss os : List Nat) : (redoW f L ms ss os).length = L.length := by
  unfold redoW; rw [putF_len, putF_len, putF_len]
theorem redoW_get (f : Nat → Wd) (L : List Wd) (ms ss os : List Nat) (i : Nat) (x : Wd) (h : L[i]? = some x) :
    (redoW f L ms ss os)[i]? = some (if i ∈ os then (0, 0, 0) else if i ∈ ss ∧ undB x = true then (2, x.2.1, 0) else if i ∈ ms then f i else x) := by
  have hi : i < L.length := (List.getElem?_eq_some_iff.1 h).1
  unfold redoW
  rw [putF_get _ _ _ _ (by rw [putF_len, putF_len]; exact hi), putF_get _ _ _ _ (by rw [putF_len]; exact hi), putF_get _ _ _ _ hi, h]
  by_cases h1 : i ∈ os
  · rw [if_pos h1, if_pos h1]; rfl
  · rw [if_neg h1, if_neg h1]
    have hl : (if i ∈ ms then (logG f i).or (some x) else some x) = some (if i ∈ ms then f i else x) := by
      by_cases h3 : i ∈ ms
      · rw [if_pos h3, if_pos h3]; rfl
      · rw [if_neg h3, if_neg h3]
    rw [hl]
    by_cases h2 : i ∈ ss
    · rw [if_pos h2]
      unfold statG
      rw [h]
      dsimp only
      by_cases h4 : undB x = true
      · rw [if_pos (show i ∈ ss ∧ undB x = true from ⟨h2, h4⟩), if_pos h4]; rfl
      · rw [if_neg (show ¬ (i ∈ ss ∧ undB x = true) from fun k => h4 k.2), if_neg h4]; rfl
    · rw [if_neg h2, if_neg (show ¬ (i ∈ ss ∧ undB x = true) from fun k => h2 k.1)]
/-- Plain: what Clean answers. -/
def cleanW (L : List Wd) (ms ss os : List Nat) : Bool :=
  ms.all (fun p => match L[p]? with | some x => decide (x.2.2 = 0) | none => true) && (ss.all (fun p => match L[p]? with | some x => !undB x | none => true) && os.all (fun p => match L[p]? with | some x => wdB x (0, 0, 0) | none => true))
def cleanN (t c b : Int) (L : List Wd) : Bool := if checkN t c b ≠ 0 ∨ (L.length : Int) < sizeN t c b then false else cleanW L (maysL t c b) (statsL t c b) (ownsL t c b)

end Go.Proofs.YtfijnpfhffhffaaDoor
