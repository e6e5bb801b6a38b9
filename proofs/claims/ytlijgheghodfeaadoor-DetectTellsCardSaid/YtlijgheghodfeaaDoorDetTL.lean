/- Plain: what the records hold after a sequence of operations. -/
import Derived.Test.YtlijgheghodfeaaDoorDetM
import Derived.Test.YtlijgheghodfeaaDoorArgsD
namespace Go.Proofs.YtlijgheghodfeaaDoor
set_option linter.unusedSimpArgs false
set_option linter.unusedVariables false
open Go.RowKit

/-- Plain: the model's words hold the last operation of each thread. -/
def Tel (M : List Wd) (la : List (Int × Int × Int)) (i : Nat) : Prop := M.length = 376 ∧ la.length = 4 ∧ (∀ a ∈ M, WdOk a) ∧ ∀ k, k < 3 → ∃ n v e ver : Int, la[k + 1]? = some (n, v, e) ∧ (0 ≤ n ∧ n ≤ 9223372036854775807) ∧ (-9223372036854775808 ≤ v ∧ v ≤ 9223372036854775807) ∧ (0 ≤ e ∧ e ≤ 255) ∧ (0 ≤ ver ∧ ver ≤ i) ∧
  M[32 + k * 8]? = some (n, ver, 0) ∧ M[32 + k * 8 + 1]? = some (v, ver, 0) ∧ M[32 + k * 8 + 2]? = some (e, ver, 0)
theorem Tel.mono {M : List Wd} {la : List (Int × Int × Int)} {i j : Nat} (h : Tel M la i) (hj : i ≤ j) : Tel M la j := by
  obtain ⟨h1, h2, h3, h4⟩ := h
  refine ⟨h1, h2, h3, fun k hk => ?_⟩
  obtain ⟨n, v, e, ver, a1, a2, a3, a4, a5, a6⟩ := h4 k hk
  exact ⟨n, v, e, ver, a1, a2, a3, a4, ⟨a5.1, by omega⟩, a6⟩
theorem new24_okB : (newL (firstL 3 8 0)).all (fun a => decide ((-9223372036854775808 ≤ a.1 ∧ a.1 ≤ 9223372036854775807) ∧ (0 ≤ a.2.1 ∧ a.2.1 ≤ 4294967295) ∧ (0 ≤ a.2.2 ∧ a.2.2 ≤ 4294967295))) = true := by kernel_rfl
theorem new24_ok : ∀ a ∈ newL (firstL 3 8 0), WdOk a := by
  intro a ha
  have := List.all_eq_true.1 new24_okB a ha
  rw [decide_eq_true_eq] at this
  exact this
theorem Tel.start : Tel (newL (firstL 3 8 0)) (List.replicate 4 (0, 0, 0)) 0 := by
  refine ⟨new24_len, rfl, new24_ok, fun k hk => ?_⟩
  obtain ⟨z0, z1, z2⟩ := new24_rec k hk
  exact ⟨0, 0, 0, 0, by rw [List.getElem?_replicate, if_pos (by omega)], by omega, by omega, by omega, by omega, z0, z1, z2⟩
theorem set_okT {L : List Wd} (h : ∀ a ∈ L, WdOk a) {x : Wd} (hx : WdOk x) (i : Nat) : ∀ a ∈ L.set i x, WdOk a := by
  intro a ha
  rcases List.mem_or_eq_of_mem_set ha with h1 | h1
  · exact h a h1
  · subst h1; exact hx
theorem Tel.step {M : List Wd} {la : List (Int × Int × Int)} {i : Nat} (h : Tel M la i) (hi : i ≤ 30) {q : Nat} (hq : q < 3) {n v e n0 v0 e0 ver : Int} (h0 : la[q + 1]? = some (n0, v0, e0)) (hv0 : 0 ≤ ver ∧ ver ≤ i) (hn0 : 0 ≤ n0) (hn : n0 < n ∧ n ≤ 9223372036854775807) (hv : -9223372036854775808 ≤ v ∧ v ≤ 9223372036854775807) (he : 0 ≤ e ∧ e ≤ 255) :
    Tel (rec3 M (32 + q * 8) (upW (n0, ver, 0) n) (upW (v0, ver, 0) v) (upW (e0, ver, 0) e)) (la.set (q + 1) (n, v, e)) (i + 1) := by
  obtain ⟨h1, h2, h3, h4⟩ := h
  have hm : (ver + 1) % 4294967296 = ver + 1 := by omega
  have hu : ∀ u y : Int, upW (u, ver, 0) y = (y, ver + 1, 0) := fun u y => by unfold upW; dsimp only; rw [hm]
  rw [hu, hu, hu]
  have hw : ∀ y : Int, -9223372036854775808 ≤ y ∧ y ≤ 9223372036854775807 → WdOk (y, ver + 1, 0) := fun y hy => ⟨hy, ⟨by dsimp only; omega, by dsimp only; omega⟩, ⟨by dsimp only; omega, by dsimp only; omega⟩⟩
  have hg := rec3_get M (32 + q * 8) (n, ver + 1, 0) (v, ver + 1, 0) (e, ver + 1, 0) (by omega)
  refine ⟨by rw [rec3_len]; exact h1, by rw [List.length_set]; exact h2, ?_, fun k hk => ?_⟩
  · exact set_okT (set_okT (set_okT h3 (hw n ⟨by omega, by omega⟩) _) (hw v hv) _) (hw e ⟨by omega, by omega⟩) _
  · by_cases hkq : k = q
    · subst hkq
      exact ⟨n, v, e, ver + 1, List.getElem?_set_self (by omega), by omega, hv, he, by omega, by rw [hg, if_pos rfl], by rw [hg, if_neg (by omega), if_pos rfl], by rw [hg, if_neg (by omega), if_neg (by omega), if_pos rfl]⟩
    · obtain ⟨n', v', e', ver', a1, a2, a3, a4, a5, a6, a7, a8⟩ := h4 k hk
      exact ⟨n', v', e', ver', by rw [List.getElem?_set_ne (by omega)]; exact a1, a2, a3, a4, ⟨a5.1, by omega⟩, by rw [hg, if_neg (by omega), if_neg (by omega), if_neg (by omega)]; exact a6, by rw [hg, if_neg (by omega), if_neg (by omega), if_neg (by omega)]; exact a7, by rw [hg, if_neg (by omega), if_neg (by omega), if_neg (by omega)]; exact a8⟩

/-- Entries are refused unless the number ascends and the error can be recorded. -/
theorem dent_not {q p : Nat} (hp : recN 3 8 0 ((q : Int) + 1) = p) {u v z : Wd} {n err val : Int} (hu : 0 ≤ u.1) (h : n ≤ u.1 ∨ err < 0 ∨ 255 < err) : ∃ c : Int, dentN 3 8 0 ((q : Int) + 1) [u, v, z] n err val = ([], c) ∧ (c == 0) = false := by
  by_cases h1 : n < 1 ∨ err < 0 ∨ 255 < err
  · exact ⟨4, dent_value check24 hp (by omega) h1, by decide⟩
  · exact ⟨12, dent_order check24 hp (by omega) (by omega) (by omega) (by omega), by decide⟩

/-- An array of operations: a whole one is written. -/
theorem flat_setOp (l : List (Int × Int × Int)) (i : Nat) (a b : Int × Int × Int) (h : l[i]? = some a) : (((l.flatMap opE).set (i * 3) (.int .i64 b.1)).set (i * 3 + 1) (.int .i64 b.2.1)).set (i * 3 + 2) (.int .i16 b.2.2) = (l.set i b).flatMap opE := by
  obtain ⟨a1, a2, a3⟩ := a
  obtain ⟨b1, b2, b3⟩ := b
  have hi : i < l.length := (List.getElem?_eq_some_iff.1 h).1
  have s0 := flat_set opE_len l i _ (b1, a2, a3) h 0 (by omega) (.int .i64 b1) rfl
  have k1 : (l.set i (b1, a2, a3))[i]? = some (b1, a2, a3) := List.getElem?_set_self hi
  have s1 := flat_set opE_len _ i _ (b1, b2, a3) k1 1 (by omega) (.int .i64 b2) rfl
  have k2 : (l.set i (b1, b2, a3))[i]? = some (b1, b2, a3) := List.getElem?_set_self hi
  rw [List.set_set] at s1
  have s2 := flat_set opE_len _ i _ (b1, b2, b3) k2 2 (by omega) (.int .i16 b3) rfl
  rw [List.set_set] at s2
  dsimp only
  rw [← s2, ← s1, ← s0]
  rfl
theorem flat_lenOp (l : List (Int × Int × Int)) : (l.flatMap opE).length = 3 * l.length := by
  induction l with
  | nil => rfl
  | cons x xs ih => simp only [List.flatMap_cons, List.length_append, opE_len, List.length_cons]; omega
/-- The cells of an operation in an array. -/
theorem Blk.op {w : World} {b : Nat} {l : List (Int × Int × Int)} (h : Blk w b (l.flatMap opE)) {i : Nat} {x : Int × Int × Int} (hx : l[i]? = some x) : w.cell? ⟨b, i * 3, none⟩ = some (.int .i64 x.1) ∧ w.cell? ⟨b, i * 3 + 1, none⟩ = some (.int .i64 x.2.1) ∧ w.cell? ⟨b, i * 3 + 2, none⟩ = some (.int .i16 x.2.2) := by
  have k := fun j hj => flat_at opE_len l i x hx j hj
  rw [Nat.mul_comm i 3]
  exact ⟨h.2.2 _ _ (k 0 (by omega)), h.2.2 _ _ (k 1 (by omega)), h.2.2 _ _ (k 2 (by omega))⟩

end Go.Proofs.YtlijgheghodfeaaDoor
