/- Plain laws on the reference's list of uses: what stands at each place, and where a use is found. No program in sight. -/
import Derived.Test.YtoaghifcgjpijaaDoorLayJ
namespace Go.Proofs.YtoaghifcgjpijaaDoor

/-- What stands at place i. -/
def kindAt (T C B i : Nat) : Kd :=
  if i < 8 then (if i = 0 then (1, 0, 0) else if i = 1 then (2, 0, 0) else (0, 0, 0))
  else if i < 8 + 8 * T then (if (i - 8) % 8 = 0 then (3, (((i - 8) / 8 + 1 : Nat) : Int), 0) else if (i - 8) % 8 = 1 then (4, (((i - 8) / 8 + 1 : Nat) : Int), 0) else (0, 0, 0))
  else if i < 8 + 16 * T then (if (i - (8 + 8 * T)) % 8 < 3 then (5, (((i - (8 + 8 * T)) / 8 + 1 : Nat) : Int), (((i - (8 + 8 * T)) % 8 : Nat) : Int)) else (0, 0, 0))
  else if i < 8 + 16 * T + C then (6, ((i - (8 + 16 * T) : Nat) : Int), 0)
  else if i < 8 + 16 * T + C + padN C then (0, 0, 0)
  else if i < 8 + 16 * T + C + padN C + 104 * T then (7, (((i - (8 + 16 * T + C + padN C)) / 104 + 1 : Nat) : Int), (((i - (8 + 16 * T + C + padN C)) % 104 : Nat) : Int))
  else if i < 8 + 16 * T + C + padN C + 104 * T + (if 0 < B then 8 else 0) then (if i = 8 + 16 * T + C + padN C + 104 * T then (8, 0, 0) else if i = 8 + 16 * T + C + padN C + 104 * T + 1 then (8, 1, 0) else (0, 0, 0))
  else (9, (((i - (8 + 16 * T + C + padN C + 104 * T + (if 0 < B then 8 else 0))) / 32 : Nat) : Int), (((i - (8 + 16 * T + C + padN C + 104 * T + (if 0 < B then 8 else 0))) % 32 : Nat) : Int))

theorem seg_get (f : Nat → List Kd) (s : Nat) (hs : ∀ q, (f q).length = s) (k i : Nat) (h : i < k * s) : ((List.range k).flatMap f)[i]? = (f (i / s))[i % s]? := by
  have hl : ∀ k, ((List.range k).flatMap f).length = k * s := by
    intro k
    induction k with
    | zero => simp
    | succ k ih => rw [List.range_succ, List.flatMap_append, List.length_append, ih]; simp [hs, Nat.add_mul]
  induction k with
  | zero => omega
  | succ k ih =>
    rw [List.range_succ, List.flatMap_append]
    by_cases hi : i < k * s
    · rw [List.getElem?_append_left (by rw [hl]; exact hi)]; exact ih hi
    · rw [List.getElem?_append_right (by rw [hl]; omega), hl]
      have hs0 : 0 < s := by
        rcases Nat.eq_zero_or_pos s with h0 | h0
        · subst h0; omega
        · exact h0
      rw [Nat.add_mul] at h
      have e1 : i / s = k := by
        exact Nat.div_eq_of_lt_le (by omega) (by rw [Nat.add_mul]; omega)
      have e2 : i % s = i - k * s := by
        have := Nat.div_add_mod i s
        rw [e1, Nat.mul_comm] at this; omega
      simp [e1, e2]

theorem hdL_get (i : Nat) (h : i < 8) : hdL[i]? = some (if i = 0 then (1, 0, 0) else if i = 1 then (2, 0, 0) else (0, 0, 0)) := by
  match i, h with
  | 0, _ => rfl
  | 1, _ => rfl
  | 2, _ => rfl
  | 3, _ => rfl
  | 4, _ => rfl
  | 5, _ => rfl
  | 6, _ => rfl
  | 7, _ => rfl
theorem annL_get (t i : Nat) (h : i < 8) : (annL t)[i]? = some (if i = 0 then (3, (t : Int), 0) else if i = 1 then (4, (t : Int), 0) else (0, 0, 0)) := by
  match i, h with
  | 0, _ => rfl
  | 1, _ => rfl
  | 2, _ => rfl
  | 3, _ => rfl
  | 4, _ => rfl
  | 5, _ => rfl
  | 6, _ => rfl
  | 7, _ => rfl
theorem recL_get (t i : Nat) (h : i < 8) : (recL t)[i]? = some (if i < 3 then (5, (t : Int), (i : Int)) else (0, 0, 0)) := by
  match i, h with
  | 0, _ => rfl
  | 1, _ => rfl
  | 2, _ => rfl
  | 3, _ => rfl
  | 4, _ => rfl
  | 5, _ => rfl
  | 6, _ => rfl
  | 7, _ => rfl
theorem bitsL_get (i : Nat) (h : i < 8) : bitsL[i]? = some (if i = 0 then (8, 0, 0) else if i = 1 then (8, 1, 0) else (0, 0, 0)) := by
  match i, h with
  | 0, _ => rfl
  | 1, _ => rfl
  | 2, _ => rfl
  | 3, _ => rfl
  | 4, _ => rfl
  | 5, _ => rfl
  | 6, _ => rfl
  | 7, _ => rfl

theorem allL_get (T C B i : Nat) (h : i < (allL T C B).length) : (allL T C B)[i]? = some (kindAt T C B i) := by
  rw [allL_len] at h
  unfold kindAt
  simp only [allL, out7]
  by_cases h7 : i < (out6 T C B).length
  · rw [List.getElem?_append_left h7]
    simp only [out6] at h7 ⊢
    by_cases h6 : i < (out5 T C T).length
    · rw [List.getElem?_append_left h6]
      simp only [out5] at h6 ⊢
      by_cases h5 : i < (out4 T C (padN C)).length
      · rw [List.getElem?_append_left h5]
        simp only [out4] at h5 ⊢
        by_cases h4 : i < (out3 T C).length
        · rw [List.getElem?_append_left h4]
          simp only [out3] at h4 ⊢
          by_cases h3 : i < (out2 T T).length
          · rw [List.getElem?_append_left h3]
            simp only [out2] at h3 ⊢
            by_cases h2 : i < (out1 T).length
            · rw [List.getElem?_append_left h2]
              simp only [out1] at h2 ⊢
              by_cases h1 : i < 8
              · rw [List.getElem?_append_left (by simpa [hdL, zk] using h1), hdL_get i h1, if_pos h1]
              · have e0 : hdL.length = 8 := rfl
                have e1 := out1_len T
                simp only [out1] at e1
                rw [List.getElem?_append_right (by rw [e0]; omega), e0, seg_get _ 8 (fun q => rfl) _ _ (by omega), annL_get _ _ (Nat.mod_lt _ (by omega)), if_neg (show ¬ i < 8 by omega), if_pos (show i < 8 + 8 * T by omega)]
            · rw [List.getElem?_append_right (by omega), out1_len]
              have e1 := out1_len T
              have e2 := out2_len T T
              simp only [out2] at e2
              rw [show 8 + 8 * T = 8 + 8 * T from rfl, seg_get _ 8 (fun q => rfl) _ _ (by omega), recL_get _ _ (Nat.mod_lt _ (by omega)), if_neg (show ¬ i < 8 by omega), if_neg (show ¬ i < 8 + 8 * T by omega), if_pos (show i < 8 + 16 * T by omega)]
          · have e2 := out2_len T T
            have e3 := out3_len T C
            simp only [out3] at e3
            rw [List.getElem?_append_right (by omega), e2, List.getElem?_map, List.getElem?_range (by omega), if_neg (show ¬ i < 8 by omega), if_neg (show ¬ i < 8 + 8 * T by omega), if_neg (show ¬ i < 8 + 16 * T by omega), if_pos (show i < 8 + 16 * T + C by omega)]
            simp only [Option.map_some]
            rw [show 8 + 8 * T + 8 * T = 8 + 16 * T by omega]
        · have e3 := out3_len T C
          have e4 := out4_len T C (padN C)
          simp only [out4] at e4
          rw [List.getElem?_append_right (by omega), e3, if_neg (show ¬ i < 8 by omega), if_neg (show ¬ i < 8 + 8 * T by omega), if_neg (show ¬ i < 8 + 16 * T by omega), if_neg (show ¬ i < 8 + 16 * T + C by omega), if_pos (show i < 8 + 16 * T + C + padN C by omega)]
          simp only [zk, List.getElem?_replicate]
          rw [if_pos (by omega)]
      · have e4 := out4_len T C (padN C)
        have e5 := out5_len T C T
        simp only [out5] at e5
        rw [List.getElem?_append_right (by omega), e4, seg_get _ 104 (fun q => slotL_len _ _) _ _ (by omega), if_neg (show ¬ i < 8 by omega), if_neg (show ¬ i < 8 + 8 * T by omega), if_neg (show ¬ i < 8 + 16 * T by omega), if_neg (show ¬ i < 8 + 16 * T + C by omega), if_neg (show ¬ i < 8 + 16 * T + C + padN C by omega), if_pos (show i < 8 + 16 * T + C + padN C + 104 * T by omega)]
        simp only [slotL, List.getElem?_map]
        rw [List.getElem?_range (Nat.mod_lt _ (by omega))]
        rfl
    · have e5 := out5_len T C T
      have e6 := out6_len T C B
      simp only [out6] at e6
      rw [List.getElem?_append_right (by omega), e5]
      by_cases hB : 0 < B
      · simp only [hB, if_true] at h7 e6 ⊢
        rw [bitsL_get _ (by omega), if_neg (show ¬ i < 8 by omega), if_neg (show ¬ i < 8 + 8 * T by omega), if_neg (show ¬ i < 8 + 16 * T by omega), if_neg (show ¬ i < 8 + 16 * T + C by omega), if_neg (show ¬ i < 8 + 16 * T + C + padN C by omega), if_neg (show ¬ i < 8 + 16 * T + C + padN C + 104 * T by omega), if_pos (show i < 8 + 16 * T + C + padN C + 104 * T + 8 by omega)]
        congr 1
        by_cases g0 : i = 8 + 16 * T + C + padN C + 104 * T
        · rw [if_pos (by omega), if_pos g0]
        · rw [if_neg (by omega), if_neg g0]
          by_cases g1 : i = 8 + 16 * T + C + padN C + 104 * T + 1
          · rw [if_pos (by omega), if_pos g1]
          · rw [if_neg (by omega), if_neg g1]
      · simp only [hB, if_false] at h7 e6 ⊢
        simp at h7
        omega
  · have e6 := out6_len T C B
    rw [List.getElem?_append_right (by omega), e6, seg_get _ 32 (fun q => blockL_len _ _) _ _ (by omega), if_neg (show ¬ i < 8 by omega), if_neg (show ¬ i < 8 + 8 * T by omega), if_neg (show ¬ i < 8 + 16 * T by omega), if_neg (show ¬ i < 8 + 16 * T + C by omega), if_neg (show ¬ i < 8 + 16 * T + C + padN C by omega), if_neg (show ¬ i < 8 + 16 * T + C + padN C + 104 * T by omega), if_neg (show ¬ i < 8 + 16 * T + C + padN C + 104 * T + (if 0 < B then 8 else 0) by omega)]
    simp only [blockL, List.getElem?_map]
    rw [List.getElem?_range (Nat.mod_lt _ (by omega))]
    rfl

end Go.Proofs.YtoaghifcgjpijaaDoor
