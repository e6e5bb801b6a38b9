/- Words put into an image, one after the other. No program in sight but the type's number. -/
import Derived.Test.YtfijnpfhffhffaaDoorLogB
import Derived.Test.YtfijnpfhffhffaaDoorOwn
namespace Go.Proofs.YtfijnpfhffhffaaDoor
set_option linter.unusedSimpArgs false
set_option linter.unusedVariables false
open Go.RowKit

/-- A whole word is written. -/
theorem Ws.put {w : World} {base g n c : Nat} {l : List Wd} (h : Ws w base (.slice (some ⟨g, 0, none⟩) n c) l) {q : Nat} (hq : q < l.length) (x y z : Int) :
    Ws (((w.setCell ⟨g, q * 3, none⟩ (.int .i64 x)).setCell ⟨g, q * 3 + 1, none⟩ (.int .u32 y)).setCell ⟨g, q * 3 + 2, none⟩ (.int .u32 z)) base (.slice (some ⟨g, 0, none⟩) n c) (l.set q (x, y, z)) := by
  obtain ⟨⟨a1, a2, a3⟩, hx⟩ : ∃ a, l[q]? = some a := ⟨_, List.getElem?_eq_getElem hq⟩
  have h1 := Own.set wdE_len h hx (x, a2, a3) (j := 0) (by omega) (.int .i64 x) rfl (o := q * 3) (by omega)
  have hx1 : (l.set q (x, a2, a3))[q]? = some (x, a2, a3) := List.getElem?_set_self hq
  have h2 := Own.set wdE_len h1 hx1 (x, y, a3) (j := 1) (by omega) (.int .u32 y) rfl (o := q * 3 + 1) (by omega)
  rw [List.set_set] at h2
  have hx2 : (l.set q (x, y, a3))[q]? = some (x, y, a3) := List.getElem?_set_self hq
  have h3 := Own.set wdE_len h2 hx2 (x, y, z) (j := 2) (by omega) (.int .u32 z) rfl (o := q * 3 + 2) (by omega)
  rw [List.set_set] at h3
  exact h3
/-- What stands in its place. -/
theorem Ws.cells {w : World} {base g n c : Nat} {l : List Wd} (h : Ws w base (.slice (some ⟨g, 0, none⟩) n c) l) {q : Nat} {x y z : Int} (hq : l[q]? = some (x, y, z)) :
    w.cell? ⟨g, q * 3, none⟩ = some (.int .i64 x) ∧ w.cell? ⟨g, q * 3 + 1, none⟩ = some (.int .u32 y) ∧ w.cell? ⟨g, q * 3 + 2, none⟩ = some (.int .u32 z) := by
  obtain ⟨g', c', e, _, hc⟩ := Own.cellsAt wdE_len h hq
  simp only [Value.slice.injEq, Option.some.injEq, Addr.mk.injEq] at e
  obtain ⟨⟨rfl, _⟩, _⟩ := e
  exact ⟨hc 0 (by omega), hc 1 (by omega), hc 2 (by omega)⟩
theorem Ws.gt {w : World} {base g n c : Nat} {l : List Wd} (h : Ws w base (.slice (some ⟨g, 0, none⟩) n c) l) (h0 : 0 < l.length) : base ≤ g ∧ g < w.heap.size ∧ n = l.length := by
  rcases h.2 with ⟨h1, h2⟩ | ⟨g', cap, cur, h1, hb, hg, _⟩
  · omega
  · simp only [Value.slice.injEq, Option.some.injEq, Addr.mk.injEq] at h1
    obtain ⟨⟨rfl, _⟩, rfl, _⟩ := h1
    exact ⟨hb, (Array.getElem?_eq_some_iff.1 hg).1, rfl⟩

theorem Ws.open {w : World} {base : Nat} {v : Value} {l : List Wd} (h : Ws w base v l) (h0 : 0 < l.length) : ∃ g c, v = .slice (some ⟨g, 0, none⟩) l.length c ∧ base ≤ g ∧ g < w.heap.size := by
  rcases h.2 with ⟨h1, h2⟩ | ⟨g', cap, cur, h1, hb, hg, _⟩
  · omega
  · exact ⟨g', cap, h1, hb, (Array.getElem?_eq_some_iff.1 hg).1⟩
/-- Plain: the first k words of X put from p on. -/
def putL (L X : List Wd) (p : Nat) : Nat → List Wd
  | 0 => L
  | k + 1 => (putL L X p k).set (p + k) (X.getD k (0, 0, 0))
theorem putL_len (L X : List Wd) (p k : Nat) : (putL L X p k).length = L.length := by
  induction k with
  | zero => rfl
  | succ k ih => simp [putL, ih]
theorem putL_succ {L X : List Wd} {p k : Nat} {x : Wd} (h : X[k]? = some x) : putL L X p (k + 1) = (putL L X p k).set (p + k) x := by
  have : X.getD k (0, 0, 0) = x := by rw [List.getD_eq_getElem?_getD, h]; rfl
  simp only [putL, this]
theorem putL_get (L X : List Wd) (p k i : Nat) (hk : k ≤ X.length) (hp : p + k ≤ L.length) : (putL L X p k)[i]? = if p ≤ i ∧ i < p + k then X[i - p]? else L[i]? := by
  induction k with
  | zero => rw [if_neg (by omega)]; rfl
  | succ k ih =>
    have hx : X[k]? = some X[k] := List.getElem?_eq_getElem (by omega)
    rw [putL_succ hx]
    by_cases h : p + k = i
    · subst h
      rw [List.getElem?_set_self (by rw [putL_len]; omega), if_pos (by omega), show p + k - p = k by omega, hx]
    · rw [List.getElem?_set_ne h, ih (by omega) (by omega)]
      by_cases h1 : p ≤ i ∧ i < p + k
      · rw [if_pos h1, if_pos (by omega)]
      · rw [if_neg h1, if_neg (by omega)]

end Go.Proofs.YtfijnpfhffhffaaDoor
