/- Plain: a record whose words are held by an operation: what is asked of it while the operation is open, and when it is done. -/
import Derived.Test.YtlijgheghodfeaaDoorDetM
import Derived.Test.YtlijgheghodfeaaDoorSlD
namespace Go.Proofs.YtlijgheghodfeaaDoor
set_option linter.unusedSimpArgs false
set_option linter.unusedVariables false
open Go.RowKit

theorem place24 (q : Nat) (hq : q < 3) : placeN 3 8 0 ((q : Int) + 1) = (((64 + q * 104 : Nat) : Int), 32) := by
  have h : q = 0 ∨ q = 1 ∨ q = 2 := by omega
  rcases h with rfl | rfl | rfl
  · exact (show placeN 3 8 0 1 = (64, 32) by kernel_rfl)
  · exact (show placeN 3 8 0 2 = (168, 32) by kernel_rfl)
  · exact (show placeN 3 8 0 3 = (272, 32) by kernel_rfl)
theorem recE_sort {p : Int} (x y z : Wd) (n err val : Int) : sortB (recE p x y z n err val) = true := by
  simp [sortB, recE, sortTo]
  omega
theorem held_check {q : Nat} (hq : q < 3) {p : Nat} (hp : recN 3 8 0 ((q : Int) + 1) = p) (hpb : p + 3 ≤ 376) {x y z : Wd} (rx : x.2.2 = 0) (ry : y.2.2 = 0) (rz : z.2.2 = 0) (vx : x.2.1 ≠ 4294967295) (vy : y.2.1 ≠ 4294967295) (vz : z.2.1 ≠ 4294967295) (n err val st : Int) (hst : 0 ≤ st ∧ st ≤ 3) :
    dcheckN 3 8 0 ((q : Int) + 1) 1 st (recE p x y z n err val) = 0 := by
  have hk := recE_check (p := (p : Int)) (by omega) (by omega) rx ry rz vx vy vz n err val
  have hm := rec_may (t := 3) (c := 8) (b := 0) (x := (q : Int) + 1) (by rw [hp]; omega)
  rw [hp] at hm
  have hma : mayAll 3 8 0 (recE p x y z n err val) = true := by
    simp only [mayAll, recE, List.all_cons, List.all_nil, hm.1, hm.2.1, hm.2.2.1]; rfl
  have hpl := place24 q hq
  unfold dcheckN
  rw [if_neg (by rw [check24]; simp), if_neg (by rw [hpl]; simp), if_neg (by omega), if_neg (by omega), if_neg (by rw [hk]; simp), if_neg (by rw [recE_sort]; simp), if_neg (by rw [hma]; simp), if_neg (by rw [hpl]; simp [recE])]
theorem held_who (q : Nat) (hq : q < 3) : refN ((q : Int) + 1) 1 = (((q : Int) + 1) * 16777216 + 1, 0) ∧ whoN (refN ((q : Int) + 1) 1).1 = ((q : Int) + 1, 1) := by
  have h : refN ((q : Int) + 1) 1 = (((q : Int) + 1) * 16777216 + 1, 0) := by unfold refN; rw [if_pos (by omega)]
  refine ⟨h, ?_⟩
  rw [h]
  have h1 : (((q : Int) + 1) * 16777216 + 1) / 16777216 = (q : Int) + 1 := by omega
  have h2 : (((q : Int) + 1) * 16777216 + 1) % 16777216 = 1 := by omega
  unfold whoN
  dsimp only
  rw [h1, h2, if_pos (by omega)]
theorem held_find (p : Int) (x y z : Wd) (n err val : Int) : findW p (recE p x y z n err val) = some n ∧ findW (p + 1) (recE p x y z n err val) = some val ∧ findW (p + 2) (recE p x y z n err val) = some err := by
  refine ⟨by simp [findW, recE], ?_, ?_⟩
  · unfold recE findW
    rw [if_neg (by rintro ⟨h, _⟩; dsimp only at h; omega)]
    simp [findW]
  · unfold recE findW
    rw [if_neg (by rintro ⟨h, _⟩; dsimp only at h; omega)]
    unfold findW
    rw [if_neg (by rintro ⟨h, _⟩; dsimp only at h; omega)]
    simp [findW]
theorem logic_held {M : List Wd} (hl : M.length = 376) {q : Nat} (hq : q < 3) {st : Int} {es : List En} (hr : readN 3 8 0 M ((q : Int) + 1) = (0, some (1, st, es))) {i : Nat} (hm : mayN 3 8 0 i = true) {x y : Int} (hx : M[i]? = some (x, y, (refN ((q : Int) + 1) 1).1)) :
    logicN 3 8 0 M i = (if st = 1 then outW x y (findW i es) else (x, y, 0), 0) := by
  have hw := (held_who q hq).2
  unfold logicN
  rw [if_neg (by rintro (h | h); exact h check24; rw [hl, size24] at h; omega), if_neg (by rw [hm]; simp), Int.toNat_natCast, hx]
  dsimp only
  unfold logicW
  dsimp only
  rw [hw, hr]
  dsimp only
  rw [if_neg (by omega)]
  by_cases hs : st = 1
  · rw [if_pos ⟨rfl, hs⟩, if_pos hs]
  · rw [if_neg (fun h => hs h.2), if_neg hs]

/-- Plain: the image in which the record's words are held by the open operation. -/
def heldL (L : List Wd) (p s : Nat) (n1 v1 e1 : Int) (r : Int) (ws : List Wd) : List Wd := rec3 (putL (rec3 L p (n1, 0, 0) (v1, 0, 0) (e1, 0, 0)) ws s 11) p (n1, 0, r) (v1, 0, r) (e1, 0, r)
theorem heldL_len (L : List Wd) (p s : Nat) (n1 v1 e1 r : Int) (ws : List Wd) : (heldL L p s n1 v1 e1 r ws).length = L.length := by
  unfold heldL; rw [rec3_len, putL_len, rec3_len]
theorem held_ask {L : List Wd} (hl : L.length = 376) {q : Nat} (hq : q < 3) {p : Nat} (hpe : p = 32 + q * 8) (hp : recN 3 8 0 ((q : Int) + 1) = p) {n1 v1 e1 n2 v2 e2 : Int} (h1 : 0 ≤ n1) (h2 : 0 ≤ e1 ∧ e1 ≤ 255) (h3 : 0 ≤ n2) (h4 : 0 ≤ e2 ∧ e2 ≤ 255)
    {s : Nat} (hs : s = 64 + q * 104) {ws : List Wd} (hws : ws = wordsW 1 0 (recE p (n1, 0, 0) (v1, 0, 0) (e1, 0, 0) n2 e2 v2)) {r : Int} (hr : r = (refN ((q : Int) + 1) 1).1) :
    askN 3 8 0 (heldL L p s n1 v1 e1 r ws) ((q : Int) + 1) = (n1, (e1, v1), 0) ∧ askN 3 8 0 ((heldL L p s n1 v1 e1 r ws).set s (1, 1, 0)) ((q : Int) + 1) = (n2, (e2, v2), 0) := by
  obtain ⟨E, hE⟩ : ∃ E, E = recE p (n1, 0, 0) (v1, 0, 0) (e1, 0, 0) n2 e2 v2 := ⟨_, rfl⟩
  have hEl : E.length = 3 := by rw [hE]; rfl
  have hpl := place24 q hq
  have hd : ∀ st, 0 ≤ st ∧ st ≤ 3 → dcheckN 3 8 0 ((q : Int) + 1) 1 st E = 0 := fun st hst => by rw [hE]; exact held_check hq hp (by omega) rfl rfl rfl (by simp) (by simp) (by simp) _ _ _ _ hst
  have hwl : ws.length = 11 := by
    rw [hws, ← hE]; unfold wordsW; rw [List.length_append, bodyW_len, hEl]; rfl
  have hM : (heldL L p s n1 v1 e1 r ws).length = 376 := by rw [heldL_len]; exact hl
  obtain ⟨M, hMe⟩ : ∃ M, M = heldL L p s n1 v1 e1 r ws := ⟨_, rfl⟩
  rw [← hMe] at hM ⊢
  have hg : ∀ i, M[i]? = if i = p then some (n1, 0, r) else if i = p + 1 then some (v1, 0, r) else if i = p + 2 then some (e1, 0, r) else (putL (rec3 L p (n1, 0, 0) (v1, 0, 0) (e1, 0, 0)) ws s 11)[i]? := fun i => by
    rw [hMe]; exact rec3_get _ _ _ _ _ (by rw [putL_len, rec3_len]; omega) i
  have hsl : ∀ i, i < 11 → M[s + i]? = ws[i]? := fun i hi => by
    rw [hg, if_neg (by omega), if_neg (by omega), if_neg (by omega), putL_get _ _ _ _ _ (by omega) (by rw [rec3_len]; omega), if_pos (by omega)]
    congr 1; omega
  have hr0 : readN 3 8 0 M ((q : Int) + 1) = (0, some (1, 0, E)) := by
    refine read_words (hd 0 (by omega)) (by rw [hM, size24]; rfl) (fun i hi => ?_)
    rw [hpl, Int.toNat_natCast, ← hs, hsl i (by omega), hws, hE]
  have hr1 : readN 3 8 0 (M.set s (1, 1, 0)) ((q : Int) + 1) = (0, some (1, 1, E)) := by
    refine read_words (hd 1 (by omega)) (by rw [List.length_set, hM, size24]; rfl) (fun i hi => ?_)
    rw [hpl, Int.toNat_natCast, ← hs, List.getElem?_set]
    by_cases h0 : i = 0
    · subst h0
      rw [if_pos (by omega), if_pos (by omega)]; rfl
    · rw [if_neg (by omega), hsl i (by omega), hws, ← hE]
      obtain ⟨j, rfl⟩ : ∃ j, i = j + 1 := ⟨i - 1, by omega⟩
      unfold wordsW
      simp
  have hm := rec_may (t := 3) (c := 8) (b := 0) (x := (q : Int) + 1) (by rw [hp]; omega)
  rw [hp] at hm
  have hf := held_find (p : Int) (n1, 0, 0) (v1, 0, 0) (e1, 0, 0) n2 e2 v2
  rw [← hE] at hf
  have c1 : ((p : Int) + 1) = ((p + 1 : Nat) : Int) := by omega
  have c2 : ((p : Int) + 2) = ((p + 2 : Nat) : Int) := by omega
  rw [c1, c2] at hm hf
  have g0 : M[p]? = some (n1, 0, r) := by rw [hg, if_pos rfl]
  have g1 : M[p + 1]? = some (v1, 0, r) := by rw [hg, if_neg (by omega), if_pos rfl]
  have g2 : M[p + 2]? = some (e1, 0, r) := by rw [hg, if_neg (by omega), if_neg (by omega), if_pos rfl]
  rw [hr] at g0 g1 g2
  have hset : ∀ i, i ≠ s → (M.set s (1, 1, 0))[i]? = M[i]? := fun i hi => by rw [List.getElem?_set_ne (by omega)]
  have k0 := logic_held hM hq hr0 hm.1 g0
  have k1 := logic_held hM hq hr0 hm.2.1 g1
  have k2 := logic_held hM hq hr0 hm.2.2.1 g2
  have hMs : (M.set s (1, 1, 0)).length = 376 := by rw [List.length_set]; exact hM
  have j0 := logic_held hMs hq hr1 hm.1 (by rw [hset p (by omega)]; exact g0)
  have j1 := logic_held hMs hq hr1 hm.2.1 (by rw [hset (p + 1) (by omega)]; exact g1)
  have j2 := logic_held hMs hq hr1 hm.2.2.1 (by rw [hset (p + 2) (by omega)]; exact g2)
  rw [if_neg (by omega)] at k0 k1 k2
  rw [if_pos rfl] at j0 j1 j2
  rw [hf.1] at j0
  rw [hf.2.1] at j1
  rw [hf.2.2] at j2
  constructor
  · unfold askN
    rw [if_neg (by rintro (h | h); exact h check24; rw [hM, size24] at h; omega), hp, if_neg (by omega), size24, List.take_of_length_le (by rw [hM]; decide), k0, c1, k1, c2, k2]
    unfold askV
    dsimp only
    rw [if_neg (by omega)]
  · unfold askN
    rw [if_neg (by rintro (h | h); exact h check24; rw [hMs, size24] at h; omega), hp, if_neg (by omega), size24, List.take_of_length_le (by rw [hMs]; decide), j0, c1, j1, c2, j2]
    unfold askV outW
    dsimp only
    rw [if_neg (by omega)]

theorem rec3_ok {L : List Wd} {p : Nat} {x y z : Wd} (hL : ∀ a ∈ L, WdOk a) (hx : WdOk x) (hy : WdOk y) (hz : WdOk z) : ∀ a ∈ rec3 L p x y z, WdOk a :=
  set_ok (set_ok (set_ok hL hx _) hy _) hz _
theorem rec3_part (L : List Wd) (p : Nat) (x y z : Wd) (h : p + 3 ≤ L.length) : ((rec3 L p x y z).drop p).take 3 = [x, y, z] := by
  have h0 := rec3_get L p x y z h p
  have h1 := rec3_get L p x y z h (p + 1)
  have h2 := rec3_get L p x y z h (p + 2)
  rw [if_pos rfl] at h0
  rw [if_neg (by omega), if_pos rfl] at h1
  rw [if_neg (by omega), if_neg (by omega), if_pos rfl] at h2
  apply List.ext_getElem?
  intro i
  rw [List.getElem?_take, List.getElem?_drop]
  match i with
  | 0 => rw [if_pos (by omega)]; exact h0
  | 1 => rw [if_pos (by omega)]; exact h1
  | 2 => rw [if_pos (by omega)]; exact h2
  | i + 3 => rw [if_neg (by omega)]; rfl

/-- Plain: the three words of a record written one after the other. -/
def rec3To (M : List Wd) (p : Nat) (x y z : Wd) : Nat → List Wd
  | 0 => M
  | 1 => M.set p x
  | 2 => (M.set p x).set (p + 1) y
  | _ => rec3 M p x y z
theorem rec3To_succ (M : List Wd) (p : Nat) (x y z u : Wd) (j : Nat) (hu : [x, y, z][j]? = some u) : rec3To M p x y z (j + 1) = (rec3To M p x y z j).set (p + j) u := by
  match j, hu with
  | 0, hu => cases hu; rfl
  | 1, hu => cases hu; rfl
  | 2, hu => cases hu; rfl
theorem rec3To_len (M : List Wd) (p : Nat) (x y z : Wd) (j : Nat) : (rec3To M p x y z j).length = M.length := by
  unfold rec3To; split <;> simp [rec3]
theorem rec3To_get (M : List Wd) (p : Nat) (x y z : Wd) (j : Nat) (hj : j < 3) : (rec3To M p x y z j)[p + j]? = M[p + j]? := by
  have h : j = 0 ∨ j = 1 ∨ j = 2 := by omega
  rcases h with rfl | rfl | rfl
  · rfl
  · exact List.getElem?_set_ne (by omega)
  · show ((M.set p x).set (p + 1) y)[p + 2]? = _
    rw [List.getElem?_set_ne (by omega), List.getElem?_set_ne (by omega)]

end Go.Proofs.YtlijgheghodfeaaDoor
