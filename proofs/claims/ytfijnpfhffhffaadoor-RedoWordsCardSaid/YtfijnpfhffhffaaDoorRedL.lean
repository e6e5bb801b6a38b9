/- Plain: recovery is idempotent, turns no logical word, keeps what is decided, and what it leaves is clean (the layout of law 20). -/
import Derived.Test.YtfijnpfhffhffaaDoorRedA
namespace Go.Proofs.YtfijnpfhffhffaaDoor
set_option linter.unusedSimpArgs false
set_option linter.unusedVariables false
open Go.RowKit

theorem size31 : sizeN 3 8 1 = 416 := by kernel_rfl
theorem check31 : checkN 3 8 1 = 0 := by kernel_rfl
theorem right31 : rightN 3 8 1 = true := by kernel_rfl
theorem apart31 : (maysL 3 8 1).all (fun i => !(statsL 3 8 1).contains i && !(ownsL 3 8 1).contains i) = true := by kernel_rfl
theorem apart31s : (statsL 3 8 1).all (fun i => !(ownsL 3 8 1).contains i && decide (i < 416)) = true := by kernel_rfl
theorem apart31o : (ownsL 3 8 1).all (fun i => decide (i < 416)) = true := by kernel_rfl
theorem may_apart {i : Nat} (h : i ∈ maysL 3 8 1) : i ∉ statsL 3 8 1 ∧ i ∉ ownsL 3 8 1 := by
  have := List.all_eq_true.1 apart31 i h
  simpa using this
theorem stat_apart {i : Nat} (h : i ∈ statsL 3 8 1) : i ∉ ownsL 3 8 1 ∧ i < 416 := by
  have := List.all_eq_true.1 apart31s i h
  simpa using this
theorem own_lt {i : Nat} (h : i ∈ ownsL 3 8 1) : i < 416 := by
  have := List.all_eq_true.1 apart31o i h
  simpa using this
theorem logic_ref0 (t c b : Int) (l : List Wd) (p : Int) : (logicN t c b l p).1.2.2 = 0 := by
  unfold logicN
  split
  · rfl
  · split
    · rfl
    · split
      · unfold logicW
        split
        · rfl
        · split
          · rfl
          · split
            · unfold outW; split <;> rfl
            · rfl
      · rfl
theorem logic_same {t c b : Int} {l : List Wd} (h1 : checkN t c b = 0) (h2 : ¬ (l.length : Int) < sizeN t c b) {i : Nat} (hm : mayN t c b i = true) {x : Wd} (hx : l[i]? = some x) (h0 : x.2.2 = 0) : logicN t c b l i = (x, 0) := by
  obtain ⟨x1, x2, x3⟩ := x
  dsimp only at h0
  subst h0
  unfold logicN
  rw [if_neg (by rintro (h | h); exact h h1; exact h2 h), if_neg (by rw [hm]; simp), Int.toNat_natCast, hx]
  rfl
theorem und_stat (x : Wd) : undB (if undB x = true then (2, x.2.1, 0) else x) = false := by
  by_cases hu : undB x = true
  · rw [if_pos hu]; rfl
  · rw [if_neg hu]; simpa using hu
section
variable {L : List Wd} (hl : L.length = 416)
include hl
theorem redo31_get {i : Nat} {x : Wd} (h : L[i]? = some x) :
    (redoL 3 8 1 L)[i]? = some (if i ∈ ownsL 3 8 1 then (0, 0, 0) else if i ∈ statsL 3 8 1 ∧ undB x = true then (2, x.2.1, 0) else if i ∈ maysL 3 8 1 then (logicN 3 8 1 L i).1 else x) := by
  unfold redoL
  rw [redoW_get _ _ _ _ _ _ _ h, size31, List.take_of_length_le (by rw [hl]; decide)]
theorem redo31_len : (redoL 3 8 1 L).length = 416 := by unfold redoL; rw [redoW_len]; exact hl
theorem redo31_may {i : Nat} (h : mayN 3 8 1 i = true) : (redoL 3 8 1 L)[i]? = some (logicN 3 8 1 L i).1 := by
  have hm := maysL_mem h
  have hb := (may_bd h).2.2
  rw [size31] at hb
  obtain ⟨x, hx⟩ : ∃ x, L[i]? = some x := ⟨_, List.getElem?_eq_getElem (by omega)⟩
  obtain ⟨a, b⟩ := may_apart hm
  rw [redo31_get hl hx, if_neg b, if_neg (fun k => a k.1), if_pos hm]
theorem redo31_stat {i : Nat} {x : Wd} (h : i ∈ statsL 3 8 1) (hx : L[i]? = some x) : (redoL 3 8 1 L)[i]? = some (if undB x = true then (2, x.2.1, 0) else x) := by
  obtain ⟨a, b⟩ := stat_apart h
  rw [redo31_get hl hx, if_neg a]
  by_cases hu : undB x = true
  · rw [if_pos ⟨h, hu⟩, if_pos hu]
  · rw [if_neg (fun k => hu k.2), if_neg hu, if_neg (fun k => (may_apart k).1 h)]
theorem redo31_own {i : Nat} (h : i ∈ ownsL 3 8 1) : (redoL 3 8 1 L)[i]? = some (0, 0, 0) := by
  have := own_lt h
  obtain ⟨x, hx⟩ : ∃ x, L[i]? = some x := ⟨_, List.getElem?_eq_getElem (by omega)⟩
  rw [redo31_get hl hx, if_pos h]
/-- No logical word turns. -/
theorem redo31_logic {i : Nat} (h : mayN 3 8 1 i = true) : logicN 3 8 1 (redoL 3 8 1 L) i = ((logicN 3 8 1 L i).1, 0) :=
  logic_same check31 (by rw [redo31_len hl, size31]; decide) h (redo31_may hl h) (logic_ref0 ..)
theorem redo31_idem : redoL 3 8 1 (redoL 3 8 1 L) = redoL 3 8 1 L := by
  have hX := redo31_len hl
  apply List.ext_getElem?
  intro i
  by_cases hi : i < 416
  · obtain ⟨x, hx⟩ : ∃ x, L[i]? = some x := ⟨_, List.getElem?_eq_getElem (by omega)⟩
    obtain ⟨y, hy⟩ : ∃ y, (redoL 3 8 1 L)[i]? = some y := ⟨_, List.getElem?_eq_getElem (by omega)⟩
    rw [redo31_get hX hy, hy]
    congr 1
    by_cases h1 : i ∈ ownsL 3 8 1
    · rw [if_pos h1]
      have := redo31_own hl h1
      rw [hy] at this
      exact (Option.some.inj this).symm
    · rw [if_neg h1]
      by_cases h2 : i ∈ statsL 3 8 1
      · have := redo31_stat hl h2 hx
        rw [hy] at this
        have hu := und_stat x
        rw [← Option.some.inj this] at hu
        rw [if_neg (fun k => by rw [hu] at k; cases k.2), if_neg (fun k => (may_apart k).1 h2)]
      · rw [if_neg (fun k => h2 k.1)]
        by_cases h3 : i ∈ maysL 3 8 1
        · rw [if_pos h3, redo31_logic hl (maysL_lt h3).1]
          have := redo31_may hl (maysL_lt h3).1
          rw [hy, Option.some.injEq] at this
          rw [this]
        · rw [if_neg h3]
  · rw [List.getElem?_eq_none (by rw [redo31_len hX]; omega), List.getElem?_eq_none (by omega)]
theorem redo31_clean : cleanN 3 8 1 (redoL 3 8 1 L) = true := by
  have hX := redo31_len hl
  unfold cleanN
  rw [if_neg (by rintro (h | h); exact h check31; rw [hX, size31] at h; omega)]
  unfold cleanW
  simp only [Bool.and_eq_true, List.all_eq_true]
  refine ⟨fun p hp => ?_, fun p hp => ?_, fun p hp => ?_⟩
  · rw [redo31_may hl (maysL_lt hp).1]
    exact decide_eq_true (logic_ref0 ..)
  · obtain ⟨x, hx⟩ : ∃ x, L[p]? = some x := ⟨_, List.getElem?_eq_getElem (by have := (stat_apart hp).2; omega)⟩
    rw [redo31_stat hl hp hx]
    dsimp only
    rw [und_stat x]; rfl
  · rw [redo31_own hl hp]
    exact wdB_self _
end

theorem findW_some {p : Int} : ∀ {es : List En} {v : Int}, findW p es = some v → ∃ e ∈ es, e.new = v
  | [], _, h => by cases h
  | e :: r, v, h => by
    unfold findW at h
    split at h
    · exact ⟨e, List.mem_cons_self .., Option.some.inj h⟩
    · obtain ⟨e', h1, h2⟩ := findW_some h
      exact ⟨e', List.mem_cons_of_mem _ h1, h2⟩
theorem readN_en {t c b who seq st : Int} {l : List Wd} {es : List En} (hok : ∀ a ∈ l, WdOk a) (h : (readN t c b l who).2 = some (seq, st, es)) : ∀ e ∈ es, EnOk e := by
  unfold readN at h
  split at h
  · cases h
  · split at h
    · cases h
    · split at h
      · split at h
        · split at h
          · split at h
            · rename_i es2 hu d
              simp only [Option.some.injEq, Prod.mk.injEq] at h
              obtain ⟨rfl, rfl, rfl⟩ := h
              exact unpackTo_ok hok hu
            · cases h
          · cases h
        · cases h
      · cases h
theorem logic_ok (t c b : Int) {l : List Wd} (hok : ∀ a ∈ l, WdOk a) (p : Int) : WdOk (logicN t c b l p).1 := by
  unfold logicN
  split
  · exact wdOk0 0 (by omega)
  · split
    · exact wdOk0 0 (by omega)
    · split
      · rename_i x hx
        have hxo := hok x (List.mem_of_getElem? hx)
        have hpl : WdOk (x.1, x.2.1, 0) := ⟨hxo.1, hxo.2.1, ⟨by dsimp only; omega, by dsimp only; omega⟩⟩
        unfold logicW
        dsimp only
        split
        · exact hpl
        · split
          · exact hpl
          · rename_i seq st es hr
            split
            · unfold outW
              split
              · rename_i v hv
                obtain ⟨e, he, rfl⟩ := findW_some hv
                have hk := readN_en hok hr e he
                exact ⟨⟨hk.new0, hk.new1⟩, ⟨by dsimp only; omega, by dsimp only; omega⟩, ⟨by dsimp only; omega, by dsimp only; omega⟩⟩
              · exact hpl
            · exact hpl
      · exact wdOk0 0 (by omega)
theorem redoL_ok (t c b : Int) {L : List Wd} (hL : ∀ a ∈ L, WdOk a) : ∀ a ∈ redoL t c b L, WdOk a := by
  unfold redoL redoW
  refine putF_ok (fun p x hx => ?_) _ _ (putF_ok (fun p x hx => ?_) _ _ (putF_ok (fun p x hx => ?_) _ _ hL))
  · unfold zeroG at hx
    cases hx
    exact wdOk0 0 (by omega)
  · unfold statG at hx
    split at hx
    · rename_i y hy
      split at hx
      · cases hx
        have hyo := hL y (List.mem_of_getElem? hy)
        exact ⟨⟨by dsimp only; omega, by dsimp only; omega⟩, hyo.2.1, ⟨by dsimp only; omega, by dsimp only; omega⟩⟩
      · cases hx
    · cases hx
  · unfold logG at hx
    cases hx
    exact logic_ok t c b (fun a ha => hL a (List.mem_of_mem_take ha)) p

end Go.Proofs.YtfijnpfhffhffaaDoor
