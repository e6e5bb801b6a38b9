/- Plain laws: every location function is the reference's search. No program in sight. -/
import Derived.Test.YtoaghifcgjpijaaDoorLayP
namespace Go.Proofs.YtoaghifcgjpijaaDoor
open Go.RowKit

/-- Where the use (w, o, 0) stands, and whether there is one. -/
def posI (T C B : Nat) (w o : Int) : Int :=
  if w = 1 then 0 else if w = 2 then 1 else if w = 3 then 8 + 8 * (o - 1) else if w = 4 then 9 + 8 * (o - 1) else if w = 5 then 8 + 8 * T + 8 * (o - 1) else if w = 6 then 8 + 16 * T + o
  else if w = 7 then 8 + 16 * T + C + padN C + 104 * (o - 1) else if w = 8 then 8 + 16 * T + C + padN C + 104 * T + o else 8 + 16 * T + C + padN C + 104 * T + 8 + 32 * o
def okI (T C B : Nat) (w o : Int) : Prop :=
  if w = 1 then o = 0 else if w = 2 then o = 0 else if w = 3 then 1 ≤ o ∧ o ≤ T else if w = 4 then 1 ≤ o ∧ o ≤ T else if w = 5 then 1 ≤ o ∧ o ≤ T else if w = 6 then 0 ≤ o ∧ o < C
  else if w = 7 then 1 ≤ o ∧ o ≤ T else if w = 8 then 0 < B ∧ 0 ≤ o ∧ o ≤ 1 else 0 ≤ o ∧ o < B

theorem kind_inv {T C B q : Nat} {w o : Int} (hq : q < (allL T C B).length) (h : kindAt T C B q = (w, o, 0)) (hw : w ≠ 0) : (q : Int) = posI T C B w o ∧ okI T C B w o := by
  rw [allL_len] at hq
  unfold kindAt at h
  by_cases c1 : q < 8
  · rw [if_pos c1] at h
    by_cases c2 : q = 0
    · rw [if_pos c2] at h; simp only [Prod.mk.injEq] at h; obtain ⟨g1, g2, g3⟩ := h; subst g1; first | exact absurd rfl hw | exact ⟨by simp [posI]; omega, by simp [okI]; omega⟩
    · rw [if_neg c2] at h
      by_cases c3 : q = 1
      · rw [if_pos c3] at h; simp only [Prod.mk.injEq] at h; obtain ⟨g1, g2, g3⟩ := h; subst g1; first | exact absurd rfl hw | exact ⟨by simp [posI]; omega, by simp [okI]; omega⟩
      · rw [if_neg c3] at h; simp only [Prod.mk.injEq] at h; obtain ⟨g1, g2, g3⟩ := h; subst g1; first | exact absurd rfl hw | exact ⟨by simp [posI]; omega, by simp [okI]; omega⟩
  rw [if_neg c1] at h
  by_cases c2 : q < 8 + 8 * T
  · rw [if_pos c2] at h
    by_cases c3 : (q - 8) % 8 = 0
    · rw [if_pos c3] at h; simp only [Prod.mk.injEq] at h; obtain ⟨g1, g2, g3⟩ := h; subst g1; first | exact absurd rfl hw | exact ⟨by simp [posI]; omega, by simp [okI]; omega⟩
    · rw [if_neg c3] at h
      by_cases c4 : (q - 8) % 8 = 1
      · rw [if_pos c4] at h; simp only [Prod.mk.injEq] at h; obtain ⟨g1, g2, g3⟩ := h; subst g1; first | exact absurd rfl hw | exact ⟨by simp [posI]; omega, by simp [okI]; omega⟩
      · rw [if_neg c4] at h; simp only [Prod.mk.injEq] at h; obtain ⟨g1, g2, g3⟩ := h; subst g1; first | exact absurd rfl hw | exact ⟨by simp [posI]; omega, by simp [okI]; omega⟩
  rw [if_neg c2] at h
  by_cases c3 : q < 8 + 16 * T
  · rw [if_pos c3] at h
    by_cases c4 : (q - (8 + 8 * T)) % 8 < 3
    · rw [if_pos c4] at h; simp only [Prod.mk.injEq] at h; obtain ⟨g1, g2, g3⟩ := h; subst g1; first | exact absurd rfl hw | exact ⟨by simp [posI]; omega, by simp [okI]; omega⟩
    · rw [if_neg c4] at h; simp only [Prod.mk.injEq] at h; obtain ⟨g1, g2, g3⟩ := h; subst g1; first | exact absurd rfl hw | exact ⟨by simp [posI]; omega, by simp [okI]; omega⟩
  rw [if_neg c3] at h
  by_cases c4 : q < 8 + 16 * T + C
  · rw [if_pos c4] at h; simp only [Prod.mk.injEq] at h; obtain ⟨g1, g2, g3⟩ := h; subst g1; first | exact absurd rfl hw | exact ⟨by simp [posI]; omega, by simp [okI]; omega⟩
  rw [if_neg c4] at h
  by_cases c5 : q < 8 + 16 * T + C + padN C
  · rw [if_pos c5] at h; simp only [Prod.mk.injEq] at h; obtain ⟨g1, g2, g3⟩ := h; subst g1; first | exact absurd rfl hw | exact ⟨by simp [posI]; omega, by simp [okI]; omega⟩
  rw [if_neg c5] at h
  by_cases c6 : q < 8 + 16 * T + C + padN C + 104 * T
  · rw [if_pos c6] at h; simp only [Prod.mk.injEq] at h; obtain ⟨g1, g2, g3⟩ := h; subst g1; first | exact absurd rfl hw | exact ⟨by simp [posI]; omega, by simp [okI]; omega⟩
  rw [if_neg c6] at h
  by_cases hB : 0 < B
  · rw [if_pos hB] at h hq
    by_cases c7 : q < 8 + 16 * T + C + padN C + 104 * T + 8
    · rw [if_pos c7] at h
      by_cases c8 : q = 8 + 16 * T + C + padN C + 104 * T
      · rw [if_pos c8] at h; simp only [Prod.mk.injEq] at h; obtain ⟨g1, g2, g3⟩ := h; subst g1; first | exact absurd rfl hw | exact ⟨by simp [posI]; omega, by simp [okI]; omega⟩
      · rw [if_neg c8] at h
        by_cases c9 : q = 8 + 16 * T + C + padN C + 104 * T + 1
        · rw [if_pos c9] at h; simp only [Prod.mk.injEq] at h; obtain ⟨g1, g2, g3⟩ := h; subst g1; first | exact absurd rfl hw | exact ⟨by simp [posI]; omega, by simp [okI]; omega⟩
        · rw [if_neg c9] at h; simp only [Prod.mk.injEq] at h; obtain ⟨g1, g2, g3⟩ := h; subst g1; first | exact absurd rfl hw | exact ⟨by simp [posI]; omega, by simp [okI]; omega⟩
    · rw [if_neg c7] at h; simp only [Prod.mk.injEq] at h; obtain ⟨g1, g2, g3⟩ := h; subst g1; first | exact absurd rfl hw | exact ⟨by simp [posI]; omega, by simp [okI]; omega⟩
  · rw [if_neg hB] at hq; omega

theorem find_pos {T C B : Nat} {k : Kd} {p : Nat} (hp : p < (allL T C B).length) (hk : kindAt T C B p = k) (hu : ∀ q, q < (allL T C B).length → kindAt T C B q = k → q = p) : findN (allL T C B) k = p := by
  refine findN_hit (by rw [allL_get _ _ _ _ hp, hk]) (fun q hq => ?_)
  have hql : q < (allL T C B).length := by omega
  rw [allL_get _ _ _ _ hql]
  intro h
  have := hu q hql (Option.some.inj h)
  omega

theorem find_none {T C B : Nat} {k : Kd} (hn : ∀ q, q < (allL T C B).length → kindAt T C B q ≠ k) : findN (allL T C B) k = -1 := by
  refine findN_miss (fun q hq => ?_)
  rw [allL_get _ _ _ _ hq]
  intro h
  exact hn q hq (Option.some.inj h)

theorem from_vals (T C B : Nat) : fromN T C B 0 = 0 ∧ fromN T C B 1 = 8 ∧ fromN T C B 2 = 8 + 8 * T ∧ fromN T C B 3 = 8 + 16 * T ∧ fromN T C B 4 = 8 + 16 * T + C + padN C ∧ fromN T C B 5 = 8 + 16 * T + C + padN C + 104 * T ∧
    fromN T C B 6 = 8 + 16 * T + C + padN C + 104 * T + (if 0 < B then 8 else 0 : Nat) := by
  simp only [fromN, longN, manyN, szN, upN, padN]
  refine ⟨trivial, by simp, by simp; omega, by simp; omega, by simp; omega, by simp; omega, ?_⟩
  by_cases hB : 0 < B
  · simp [hB]; omega
  · simp [hB]; omega

theorem kind_at {T C B : Nat} {w o : Int} (hw : 1 ≤ w ∧ w ≤ 9) (h : okI T C B w o) : ∃ p : Nat, (p : Int) = posI T C B w o ∧ p < (allL T C B).length ∧ kindAt T C B p = (w, o, 0) := by
  rw [allL_len]
  have h9 : w = 1 ∨ w = 2 ∨ w = 3 ∨ w = 4 ∨ w = 5 ∨ w = 6 ∨ w = 7 ∨ w = 8 ∨ w = 9 := by omega
  rcases h9 with rfl | rfl | rfl | rfl | rfl | rfl | rfl | rfl | rfl
  · simp [okI] at h; subst h; exact ⟨0, by simp [posI], by omega, by simp [kindAt]⟩
  · simp [okI] at h; subst h; exact ⟨1, by simp [posI], by omega, by simp [kindAt]⟩
  · simp [okI] at h
    obtain ⟨m, rfl⟩ := Int.eq_ofNat_of_zero_le (show 0 ≤ o by omega)
    refine ⟨8 + 8 * (m - 1), by simp [posI]; omega, by omega, ?_⟩
    unfold kindAt
    rw [if_neg (show ¬ 8 + 8 * (m - 1) < 8 by omega), if_pos (show 8 + 8 * (m - 1) < 8 + 8 * T by omega), if_pos (show (8 + 8 * (m - 1) - 8) % 8 = 0 by omega), show (8 + 8 * (m - 1) - 8) / 8 + 1 = m by omega]
  · simp [okI] at h
    obtain ⟨m, rfl⟩ := Int.eq_ofNat_of_zero_le (show 0 ≤ o by omega)
    refine ⟨9 + 8 * (m - 1), by simp [posI]; omega, by omega, ?_⟩
    unfold kindAt
    rw [if_neg (show ¬ 9 + 8 * (m - 1) < 8 by omega), if_pos (show 9 + 8 * (m - 1) < 8 + 8 * T by omega), if_neg (show ¬ (9 + 8 * (m - 1) - 8) % 8 = 0 by omega), if_pos (show (9 + 8 * (m - 1) - 8) % 8 = 1 by omega), show (9 + 8 * (m - 1) - 8) / 8 + 1 = m by omega]
  · simp [okI] at h
    obtain ⟨m, rfl⟩ := Int.eq_ofNat_of_zero_le (show 0 ≤ o by omega)
    refine ⟨8 + 8 * T + 8 * (m - 1), by simp [posI]; omega, by omega, ?_⟩
    unfold kindAt
    rw [if_neg (show ¬ 8 + 8 * T + 8 * (m - 1) < 8 by omega), if_neg (show ¬ 8 + 8 * T + 8 * (m - 1) < 8 + 8 * T by omega), if_pos (show 8 + 8 * T + 8 * (m - 1) < 8 + 16 * T by omega),
      show (8 + 8 * T + 8 * (m - 1) - (8 + 8 * T)) % 8 = 0 by omega, show (8 + 8 * T + 8 * (m - 1) - (8 + 8 * T)) / 8 + 1 = m by omega]
    rfl
  · simp [okI] at h
    obtain ⟨m, rfl⟩ := Int.eq_ofNat_of_zero_le h.1
    refine ⟨8 + 16 * T + m, by simp [posI], by omega, ?_⟩
    unfold kindAt
    rw [if_neg (show ¬ 8 + 16 * T + m < 8 by omega), if_neg (show ¬ 8 + 16 * T + m < 8 + 8 * T by omega), if_neg (show ¬ 8 + 16 * T + m < 8 + 16 * T by omega), if_pos (show 8 + 16 * T + m < 8 + 16 * T + C by omega), show 8 + 16 * T + m - (8 + 16 * T) = m by omega]
  · simp [okI] at h
    obtain ⟨m, rfl⟩ := Int.eq_ofNat_of_zero_le (show 0 ≤ o by omega)
    refine ⟨8 + 16 * T + C + padN C + 104 * (m - 1), by simp [posI]; omega, by omega, ?_⟩
    obtain ⟨X, hX⟩ : ∃ X, X = 8 + 16 * T + C + padN C := ⟨_, rfl⟩
    unfold kindAt
    rw [if_neg (by omega), if_neg (by omega), if_neg (by omega), if_neg (by omega), if_neg (by omega), if_pos (by omega), ← hX, show (X + 104 * (m - 1) - X) % 104 = 0 by omega, show (X + 104 * (m - 1) - X) / 104 + 1 = m by omega]
    rfl
  · simp [okI] at h
    obtain ⟨hB, h0, h1⟩ := h
    have h01 : o = 0 ∨ o = 1 := by omega
    rcases h01 with rfl | rfl
    · refine ⟨8 + 16 * T + C + padN C + 104 * T, by simp [posI], by rw [if_pos hB]; omega, ?_⟩
      unfold kindAt
      rw [if_pos hB, if_neg (by omega), if_neg (by omega), if_neg (by omega), if_neg (by omega), if_neg (by omega), if_neg (by omega), if_pos (by omega), if_pos rfl]
    · refine ⟨8 + 16 * T + C + padN C + 104 * T + 1, by simp [posI], by rw [if_pos hB]; omega, ?_⟩
      unfold kindAt
      rw [if_pos hB, if_neg (by omega), if_neg (by omega), if_neg (by omega), if_neg (by omega), if_neg (by omega), if_neg (by omega), if_pos (by omega), if_neg (by omega), if_pos rfl]
  · simp [okI] at h
    obtain ⟨m, rfl⟩ := Int.eq_ofNat_of_zero_le h.1
    have hB : 0 < B := by omega
    refine ⟨8 + 16 * T + C + padN C + 104 * T + 8 + 32 * m, by simp [posI], by rw [if_pos hB]; omega, ?_⟩
    obtain ⟨X, hX⟩ : ∃ X, X = 8 + 16 * T + C + padN C + 104 * T + 8 := ⟨_, rfl⟩
    unfold kindAt
    rw [if_pos hB, if_neg (by omega), if_neg (by omega), if_neg (by omega), if_neg (by omega), if_neg (by omega), if_neg (by omega), if_neg (by omega), ← hX, show (X + 32 * m - X) % 32 = 0 by omega, show (X + 32 * m - X) / 32 = m by omega]
    rfl

theorem find_yes {T C B : Nat} {w o : Int} (hw : 1 ≤ w ∧ w ≤ 9) (h : okI T C B w o) : findN (allL T C B) (w, o, 0) = posI T C B w o := by
  obtain ⟨p, h1, h2, h3⟩ := kind_at hw h
  rw [find_pos h2 h3 (fun q hq hk => by have := (kind_inv hq hk (by omega)).1; omega), h1]
theorem find_no {T C B : Nat} {w o : Int} (hw : 1 ≤ w ∧ w ≤ 9) (h : ¬ okI T C B w o) : findN (allL T C B) (w, o, 0) = -1 :=
  find_none (fun q hq hk => h (kind_inv hq hk (by omega)).2)

theorem find_nil (k : Kd) : findN [] k = -1 := rfl

/-- A layout's list, and its numbers. -/
theorem lay_cases (t c b : Int) : (rightN t c b = false ∧ allK t c b = []) ∨ ∃ T C B : Nat, t = T ∧ c = C ∧ b = B ∧ rightN T C B = true ∧ allK T C B = allL T C B ∧ T ≤ 8 ∧ C ≤ 2048 ∧ B ≤ 64 := by
  cases hr : rightN t c b
  · have hc : checkN t c b ≠ 0 := by intro h; simp [rightN, h] at hr
    exact .inl ⟨rfl, by simp [allK, hc]⟩
  · have hc : checkN t c b = 0 := by simpa [rightN] using hr
    obtain ⟨h1, h2, h3, h4, h5, h6⟩ := (right_lok hr).1
    obtain ⟨T, rfl⟩ := Int.eq_ofNat_of_zero_le (show 0 ≤ t by omega)
    obtain ⟨C, rfl⟩ := Int.eq_ofNat_of_zero_le (show 0 ≤ c by omega)
    obtain ⟨B, rfl⟩ := Int.eq_ofNat_of_zero_le h5
    exact .inr ⟨T, C, B, rfl, rfl, rfl, hr, by simp [allK, hc], by omega, by omega, by omega⟩

def InR (x : Int) : Prop := -9223372036854775808 ≤ x ∧ x ≤ 9223372036854775807

theorem wrap_pred {x : Int} (h : InR x) : (1 ≤ x ∧ wrap64 (x - 1) = x - 1) ∨ (x < 1 ∧ (wrap64 (x - 1) < 0 ∨ 9223372036854775807 ≤ wrap64 (x - 1))) := by
  obtain ⟨h1, h2⟩ := h
  by_cases hx : 1 ≤ x
  · exact .inl ⟨hx, IntWalk.wrap64_in _ ⟨by omega, by omega⟩⟩
  · refine .inr ⟨by omega, ?_⟩
    by_cases hm : x = -9223372036854775808
    · subst hm; right; simp [wrap64]
    · left; rw [IntWalk.wrap64_in _ ⟨by omega, by omega⟩]; omega

theorem clock_law (t c b : Int) : findN (allK t c b) (1, 0, 0) = atN t c b 0 0 0 := by
  rcases lay_cases t c b with ⟨hr, hk⟩ | ⟨T, C, B, rfl, rfl, rfl, hr, hk, _⟩
  · rw [hk, find_nil]; simp [atN, hr]
  · rw [hk, find_yes (by omega) (by simp [okI])]
    simp [atN, hr, manyN, posI, fromN]
theorem era_law (t c b : Int) : findN (allK t c b) (2, 0, 0) = atN t c b 0 0 1 := by
  rcases lay_cases t c b with ⟨hr, hk⟩ | ⟨T, C, B, rfl, rfl, rfl, hr, hk, _⟩
  · rw [hk, find_nil]; simp [atN, hr]
  · rw [hk, find_yes (by omega) (by simp [okI])]
    simp [atN, hr, manyN, posI, fromN]
theorem announce_law (t c b x : Int) (hx : InR x) : findN (allK t c b) (3, x, 0) = atN t c b 1 (wrap64 (x - 1)) 0 := by
  rcases lay_cases t c b with ⟨hr, hk⟩ | ⟨T, C, B, rfl, rfl, rfl, hr, hk, hT, _, _⟩
  · rw [hk, find_nil]; simp [atN, hr]
  · obtain ⟨f0, f1, f2, f3, f4, f5, f6⟩ := from_vals T C B
    simp only [atN, hr, manyN, szN, f1]
    rcases wrap_pred hx with ⟨h1, h2⟩ | ⟨h1, h2⟩
    · rw [h2]
      by_cases hi : x ≤ T
      · rw [hk, find_yes (by omega) (by simp [okI]; omega), if_pos ⟨trivial, by omega, by omega⟩]; simp [posI]; omega
      · rw [hk, find_no (by omega) (by simp [okI]; omega), if_neg (by omega)]
    · rw [hk, find_no (by omega) (by simp [okI]; omega), if_neg (by omega)]
theorem hazard_law (t c b x : Int) (hx : InR x) : findN (allK t c b) (4, x, 0) = atN t c b 1 (wrap64 (x - 1)) 1 := by
  rcases lay_cases t c b with ⟨hr, hk⟩ | ⟨T, C, B, rfl, rfl, rfl, hr, hk, hT, _, _⟩
  · rw [hk, find_nil]; simp [atN, hr]
  · obtain ⟨f0, f1, f2, f3, f4, f5, f6⟩ := from_vals T C B
    simp only [atN, hr, manyN, szN, f1]
    rcases wrap_pred hx with ⟨h1, h2⟩ | ⟨h1, h2⟩
    · rw [h2]
      by_cases hi : x ≤ T
      · rw [hk, find_yes (by omega) (by simp [okI]; omega), if_pos ⟨trivial, by omega, by omega⟩]; simp [posI]; omega
      · rw [hk, find_no (by omega) (by simp [okI]; omega), if_neg (by omega)]
    · rw [hk, find_no (by omega) (by simp [okI]; omega), if_neg (by omega)]
theorem record_law (t c b x : Int) (hx : InR x) : findN (allK t c b) (5, x, 0) = atN t c b 2 (wrap64 (x - 1)) 0 := by
  rcases lay_cases t c b with ⟨hr, hk⟩ | ⟨T, C, B, rfl, rfl, rfl, hr, hk, hT, _, _⟩
  · rw [hk, find_nil]; simp [atN, hr]
  · obtain ⟨f0, f1, f2, f3, f4, f5, f6⟩ := from_vals T C B
    simp only [atN, hr, manyN, szN, f2]
    rcases wrap_pred hx with ⟨h1, h2⟩ | ⟨h1, h2⟩
    · rw [h2]
      by_cases hi : x ≤ T
      · rw [hk, find_yes (by omega) (by simp [okI]; omega), if_pos ⟨trivial, by omega, by omega⟩]; simp [posI]; omega
      · rw [hk, find_no (by omega) (by simp [okI]; omega), if_neg (by omega)]
    · rw [hk, find_no (by omega) (by simp [okI]; omega), if_neg (by omega)]
theorem slot_law (t c b x : Int) (hx : InR x) : findN (allK t c b) (7, x, 0) = atN t c b 4 (wrap64 (x - 1)) 0 := by
  rcases lay_cases t c b with ⟨hr, hk⟩ | ⟨T, C, B, rfl, rfl, rfl, hr, hk, hT, _, _⟩
  · rw [hk, find_nil]; simp [atN, hr]
  · obtain ⟨f0, f1, f2, f3, f4, f5, f6⟩ := from_vals T C B
    simp only [atN, hr, manyN, szN, f4]
    rcases wrap_pred hx with ⟨h1, h2⟩ | ⟨h1, h2⟩
    · rw [h2]
      by_cases hi : x ≤ T
      · rw [hk, find_yes (by omega) (by simp [okI]; omega), if_pos ⟨trivial, by omega, by omega⟩]; simp [posI]; omega
      · rw [hk, find_no (by omega) (by simp [okI]; omega), if_neg (by omega)]
    · rw [hk, find_no (by omega) (by simp [okI]; omega), if_neg (by omega)]
theorem cell_law (t c b i : Int) : findN (allK t c b) (6, i, 0) = atN t c b 3 i 0 := by
  rcases lay_cases t c b with ⟨hr, hk⟩ | ⟨T, C, B, rfl, rfl, rfl, hr, hk, _⟩
  · rw [hk, find_nil]; simp [atN, hr]
  · obtain ⟨f0, f1, f2, f3, f4, f5, f6⟩ := from_vals T C B
    simp only [atN, hr, manyN, szN, f3]
    by_cases hi : 0 ≤ i ∧ i < C
    · rw [hk, find_yes (by omega) (by simpa [okI] using hi), if_pos ⟨trivial, hi⟩]; simp [posI]
    · rw [hk, find_no (by omega) (by simpa [okI] using hi), if_neg (fun h => hi h.2)]
theorem block_law (t c b i : Int) : findN (allK t c b) (9, i, 0) = atN t c b 6 i 0 := by
  rcases lay_cases t c b with ⟨hr, hk⟩ | ⟨T, C, B, rfl, rfl, rfl, hr, hk, _⟩
  · rw [hk, find_nil]; simp [atN, hr]
  · obtain ⟨f0, f1, f2, f3, f4, f5, f6⟩ := from_vals T C B
    simp only [atN, hr, manyN, szN, f6]
    by_cases hi : 0 ≤ i ∧ i < B
    · rw [hk, find_yes (by omega) (by simpa [okI] using hi), if_pos ⟨trivial, hi⟩, if_pos (by omega)]; simp [posI]; omega
    · rw [hk, find_no (by omega) (by simpa [okI] using hi), if_neg (fun h => hi h.2)]
/-- The word of a block's bit. -/
theorem bits_law (t c b i : Int) (hi : 0 ≤ findN (allK t c b) (9, i, 0)) : findN (allK t c b) (8, i / 32, 0) = (bitsN t c b i).1 ∧ (bitsN t c b i).2 = 2 ^ (i % 32).toNat ∧ 0 ≤ i ∧ i < 64 := by
  rw [block_law] at hi
  have hv : rightN t c b = true ∧ 0 ≤ i ∧ i < b := by
    simp only [atN, manyN] at hi
    by_cases h : rightN t c b = true ∧ 0 ≤ i ∧ i < b
    · exact h
    · rw [if_neg h] at hi; omega
  rcases lay_cases t c b with ⟨hr, hk⟩ | ⟨T, C, B, rfl, rfl, rfl, hr, hk, _, _, _⟩
  · rw [hr] at hv; simp at hv
  · obtain ⟨f0, f1, f2, f3, f4, f5, f6⟩ := from_vals T C B
    obtain ⟨_, h0, h1⟩ := hv
    rw [hk, find_yes (by omega) (by simp [okI]; omega)]
    simp only [bitsN, hr, h0, h1, f5]
    simp [posI]
    omega
theorem bits_none (t c b i : Int) (hi : ¬ 0 ≤ findN (allK t c b) (9, i, 0)) : bitsN t c b i = (-1, 0) := by
  rw [block_law] at hi
  simp only [bitsN]
  rw [if_neg]
  intro hv
  have hf := (from_bd (right_lok hv.1).1 6).1
  simp only [atN, manyN, szN] at hi
  rw [if_pos hv] at hi
  omega

end Go.Proofs.YtoaghifcgjpijaaDoor
