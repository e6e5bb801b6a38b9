/- Plain: the swap that writes a record. -/
import Derived.Test.YtlijgheghodfeaaDoorDetFWalk
namespace Go.Proofs.YtlijgheghodfeaaDoor
set_option linter.unusedSimpArgs false
set_option linter.unusedVariables false
open Go.RowKit

/-- Plain: the three words of a record written. -/
def rec3 (L : List Wd) (p : Nat) (x y z : Wd) : List Wd := ((L.set p x).set (p + 1) y).set (p + 2) z
theorem rec3_len (L : List Wd) (p : Nat) (x y z : Wd) : (rec3 L p x y z).length = L.length := by simp [rec3]
theorem rec3_get (L : List Wd) (p : Nat) (x y z : Wd) (h : p + 3 ≤ L.length) (i : Nat) : (rec3 L p x y z)[i]? = if i = p then some x else if i = p + 1 then some y else if i = p + 2 then some z else L[i]? := by
  unfold rec3
  simp only [List.getElem?_set, List.length_set]
  by_cases h0 : i = p
  · subst h0
    rw [if_neg (by omega), if_neg (by omega), if_pos rfl, if_pos (by omega), if_pos rfl]
  · by_cases h1 : i = p + 1
    · subst h1
      rw [if_neg (by omega), if_pos rfl, if_pos (by omega), if_neg h0, if_pos rfl]
    · by_cases h2 : i = p + 2
      · subst h2
        rw [if_pos rfl, if_pos (by omega), if_neg h0, if_neg h1, if_pos rfl]
      · rw [if_neg (by omega), if_neg (by omega), if_neg (by omega), if_neg h0, if_neg h1, if_neg h2]
def upW (x : Wd) (v : Int) : Wd := (v, (x.2.1 + 1) % 4294967296, 0)
theorem atW_some {L : List Wd} {q : Nat} {x : Wd} (h : L[q]? = some x) : atW L (q : Int) = (x, true) := by
  unfold atW
  rw [if_pos (by omega), Int.toNat_natCast, h]

section
variable {L : List Wd} {p : Nat} {x y z : Wd} {n err val : Int}
/-- The swap of a record's entries that expect what is there. -/
theorem rec_swap (hp : p + 3 ≤ L.length) (hl : L.length ≤ 4096) (hx : L[p]? = some x) (hy : L[p + 1]? = some y) (hz : L[p + 2]? = some z) (rx : x.2.2 = 0) (ry : y.2.2 = 0) (rz : z.2.2 = 0)
    (vx : x.2.1 ≠ 4294967295) (vy : y.2.1 ≠ 4294967295) (vz : z.2.1 ≠ 4294967295) : swapN L (recE p x y z n err val) = (rec3 L p (upW x n) (upW y val) (upW z err), true, 0) := by
  have hc := recE_check (p := p) (by omega) (by omega) rx ry rz vx vy vz n err val
  have a0 : atW L (p : Int) = (x, true) := atW_some hx
  have a1 : atW L ((p : Int) + 1) = (y, true) := atW_some (q := p + 1) hy
  have a2 : atW L ((p : Int) + 2) = (z, true) := atW_some (q := p + 2) hz
  have hh : hasB L (recE p x y z n err val) = true := by simp [hasB, recE, a0, a1, a2]
  have e0 : wdB x (x.1, x.2.1, 0) = true := by rw [← rx]; exact wdB_self _
  have e1 : wdB y (y.1, y.2.1, 0) = true := by rw [← ry]; exact wdB_self _
  have e2 : wdB z (z.1, z.2.1, 0) = true := by rw [← rz]; exact wdB_self _
  have ho : holdsB L (recE p x y z n err val) = true := by simp [holdsB, met, recE, a0, a1, a2, e0, e1, e2]
  have hs : setL L (recE p x y z n err val) = rec3 L p (upW x n) (upW y val) (upW z err) := by
    have t1 : ((p : Int) + 1).toNat = p + 1 := by omega
    have t2 : ((p : Int) + 2).toNat = p + 2 := by omega
    simp [setL, setW, recE, rec3, upW, t1, t2]
  unfold swapN
  rw [if_neg (by rw [hc]; simp), if_neg (by rw [hh]; simp), if_neg (by rw [ho]; simp), hs]
/-- It fails where the first word is another. -/
theorem rec_fail {u : Wd} (hp : p + 3 ≤ L.length) (hl : L.length ≤ 4096) (hu : L[p]? = some u) (hne : u ≠ (x.1, x.2.1, 0)) (rx : x.2.2 = 0) (ry : y.2.2 = 0) (rz : z.2.2 = 0)
    (vx : x.2.1 ≠ 4294967295) (vy : y.2.1 ≠ 4294967295) (vz : z.2.1 ≠ 4294967295) : swapN L (recE p x y z n err val) = (L, false, 0) := by
  have hc := recE_check (p := p) (by omega) (by omega) rx ry rz vx vy vz n err val
  have a0 : atW L (p : Int) = (u, true) := atW_some hu
  obtain ⟨y', hy⟩ : ∃ y', L[p + 1]? = some y' := ⟨_, List.getElem?_eq_getElem (by omega)⟩
  obtain ⟨z', hz⟩ : ∃ z', L[p + 2]? = some z' := ⟨_, List.getElem?_eq_getElem (by omega)⟩
  have a1 : atW L ((p : Int) + 1) = (y', true) := atW_some (q := p + 1) hy
  have a2 : atW L ((p : Int) + 2) = (z', true) := atW_some (q := p + 2) hz
  have hh : hasB L (recE p x y z n err val) = true := by simp [hasB, recE, a0, a1, a2]
  have e0 : wdB u (x.1, x.2.1, 0) = false := decide_eq_false hne
  have ho : holdsB L (recE p x y z n err val) = false := by simp [holdsB, met, recE, a0, e0]
  unfold swapN
  rw [if_neg (by rw [hc]; simp), if_neg (by rw [hh]; simp), if_pos ho]
end

/-- The model's first words: a record's are zero. -/
theorem new24_len : (newL (firstL 3 8 0)).length = 376 := by kernel_rfl
theorem new24_rec (j : Nat) (hj : j < 3) : (newL (firstL 3 8 0))[32 + j * 8]? = some (0, 0, 0) ∧ (newL (firstL 3 8 0))[32 + j * 8 + 1]? = some (0, 0, 0) ∧ (newL (firstL 3 8 0))[32 + j * 8 + 2]? = some (0, 0, 0) := by
  have h : j = 0 ∨ j = 1 ∨ j = 2 := by omega
  rcases h with rfl | rfl | rfl
  · exact ⟨by kernel_rfl, by kernel_rfl, by kernel_rfl⟩
  · exact ⟨by kernel_rfl, by kernel_rfl, by kernel_rfl⟩
  · exact ⟨by kernel_rfl, by kernel_rfl, by kernel_rfl⟩
theorem dent_good {t c b x p : Int} {u v z : Wd} {n err val : Int} (hc : checkN t c b = 0) (hp : recN t c b x = p) (h0 : 0 ≤ p) (h1 : p + 3 ≤ 4096) (hn : 1 ≤ n) (he : 0 ≤ err ∧ err ≤ 255) (hu : u.1 < n)
    (rx : u.2.2 = 0) (ry : v.2.2 = 0) (rz : z.2.2 = 0) (vx : u.2.1 ≠ 4294967295) (vy : v.2.1 ≠ 4294967295) (vz : z.2.1 ≠ 4294967295) : dentN t c b x [u, v, z] n err val = (recE p u v z n err val, 0) := by
  have hk := recE_check h0 h1 rx ry rz vx vy vz n err val
  unfold dentN
  rw [if_neg (by rintro (g | g); exact g hc; exact g rfl), hp, if_neg (by omega), if_neg (by omega)]
  dsimp only
  rw [if_neg (by omega), if_neg (by rw [hk]; simp)]
theorem dent_value {t c b x p : Int} {u v z : Wd} {n err val : Int} (hc : checkN t c b = 0) (hp : recN t c b x = p) (h0 : 0 ≤ p) (hn : n < 1 ∨ err < 0 ∨ 255 < err) : dentN t c b x [u, v, z] n err val = ([], 4) := by
  unfold dentN
  rw [if_neg (by rintro (g | g); exact g hc; exact g rfl), hp, if_neg (by omega), if_pos hn]
theorem dent_order {t c b x p : Int} {u v z : Wd} {n err val : Int} (hc : checkN t c b = 0) (hp : recN t c b x = p) (h0 : 0 ≤ p) (hn : 1 ≤ n) (he : 0 ≤ err ∧ err ≤ 255) (hu : n ≤ u.1) : dentN t c b x [u, v, z] n err val = ([], 12) := by
  unfold dentN
  rw [if_neg (by rintro (g | g); exact g hc; exact g rfl), hp, if_neg (by omega), if_neg (by omega)]
  dsimp only
  rw [if_pos hu]

end Go.Proofs.YtlijgheghodfeaaDoor
