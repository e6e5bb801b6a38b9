/- The walk of the statement ModelSplits. -/
import Derived.Test.YtdodipejckigoaaOnceWalk
namespace Go.Proofs.Ytdodipejckigoaa
open Go.RowKit

/-- A slice's rest: 's[k:]'. -/
theorem Sl.drop {α : Type} {w : World} {size : Nat} {enc : α → List Value} {l : List α} {a : Option Addr} {n c : Nat} (h : Sl w size enc (.slice a n c) l) (k : Nat) (hk : k ≤ l.length) :
    Sl w size enc (.slice (if c = k then a else a.map (fun x => x.add (k * size))) (l.length - k) (c - k)) (l.drop k) := by
  obtain ⟨a', c1, hv, hm, hl⟩ := h
  simp only [Value.slice.injEq] at hv
  obtain ⟨rfl, rfl, rfl⟩ := hv
  refine ⟨_, _, by rw [List.length_drop], by rw [List.length_drop]; omega, fun hn => ?_⟩
  have hkl : k < l.length := by
    rcases Nat.lt_or_ge k l.length with h | h
    · exact h
    · exact absurd (List.drop_eq_nil_of_le h) hn
  obtain ⟨b, o, rfl, hb, hc⟩ := hl (fun h0 => by rw [h0] at hkl; simp at hkl)
  have hadd : (⟨b, o, none⟩ : Addr).add (k * size) = ⟨b, o + k * size, none⟩ := by unfold Addr.add; split <;> simp_all
  refine ⟨b, o + k * size, by rw [if_neg (by omega), Option.map_some, hadd], hb, fun i x hx j hj => ?_⟩
  rw [List.getElem?_drop] at hx
  have := hc _ x hx j hj
  rw [Nat.add_mul] at this
  rw [← this]
  congr 2
  omega

theorem split_met {m : List Wd} {es : List En} (q0 : checkE es = 0) (q1 : hasB m es = true) (q2 : holdsB m es = true) {e : En} (he : e ∈ es) : holdsB (setL m es) [e] = !e.wr := by
  simp only [holdsB, List.all_cons, List.all_nil, Bool.and_true]
  cases hw : e.wr
  · rw [met_ro q0 q1 he hw]; exact List.all_eq_true.1 q2 e he
  · rw [met_wr q0 q1 he hw]; rfl

set_option maxRecDepth 100000 in
set_option maxHeartbeats 2000000 in
theorem lsplits_any (w : World) (l : List Wd) (v : Value) (hv : Wsl w v l) (_ : ∀ a ∈ l, WdOk a) (es : List En) (ve : Value) (he : Es w ve es) (hok : ∀ e ∈ es, EnOk e) (x : Int) (hx0 : 0 ≤ x) (hx1 : x ≤ 255) :
    Calls Try.prog 7 #[v, ve, .int .u8 x] w fun y w' => y = .returned (.bool true) ∧ ∃ r, w' = ext w r := by
  have HV := hid hv
  have HE := hid he
  have HO := hid hok
  obtain ⟨a, c, rfl, ⟨hm, hlc⟩, _⟩ := hv
  obtain ⟨a2, c2, rfl, ⟨hm2, hlc2⟩, _⟩ := he
  clear hok
  cases hf : fewB l.length [(a2, es.length, c2)]
  · have HF := hid hf
    clear hf
    go_enter Try.func7, Try.ntmps7
    go_wp2_with fail
    go_call (few_any l.length a c [(a2, es.length, c2)] _ _ (lit_rows 1 rfl (by omega) rfl rfl rfl)) as y w' ⟨rfl, r1, rfl⟩
    rw [HF.out]
    go_wp2_with fail
    go_call (awake_any _) as y w' ⟨rfl, r2, rfl⟩
    go_wp2_with fail
    go_ret
    exact ⟨rfl, by (show Ext _ _; repeat (first | with_reducible exact Ext.refl _ | with_reducible refine Ext.ext ?_ _ | with_reducible refine Ext.alloc ?_ _ | refine Ext.drew ?_ | refine Ext.drewN ?_ _ | exact Ext.refl _))⟩
  · have hl20 := (few_le hf).1
    have he12 : es.length ≤ 12 := (few_le hf).2.2 _ (List.mem_singleton_self _)
    have HF := hid hf
    clear hf
    have HL := hid (show (newL l).length = l.length by simp [newL])
    have hl100 : (newL l).length ≤ 100000 := by rw [HL.out]; omega
    obtain ⟨k, hk⟩ : ∃ k : Nat, x % ((es.length : Int) + 1) = (k : Int) := ⟨(x % ((es.length : Int) + 1)).toNat, by rw [Int.toNat_of_nonneg (Int.emod_nonneg _ (by omega))]⟩
    have hkl : k ≤ es.length := by have := Int.emod_lt_of_pos x (show (0 : Int) < (es.length : Int) + 1 by omega); omega
    have hkl' : (k : Int) ≤ (es.length : Int) := by omega
    have hkc' : (k : Int) ≤ (c2 : Int) := by omega
    go_enter Try.func7, Try.ntmps7
    go_wp2_with fail
    go_call (few_any l.length a c [(a2, es.length, c2)] _ _ (lit_rows 1 rfl (by omega) rfl rfl rfl)) as y w' ⟨rfl, r1, rfl⟩
    rw [HF.out]
    go_wp2_with fail
    go_call (new_any l _ _ (by omega) (HV.out.of wdE_len (by (show Ext _ _; repeat (first | with_reducible exact Ext.refl _ | with_reducible refine Ext.ext ?_ _ | with_reducible refine Ext.alloc ?_ _ | refine Ext.drew ?_ | refine Ext.drewN ?_ _ | exact Ext.refl _))))) as y w' ⟨v1, rfl, ⟨r2, rfl⟩, hv1⟩
    have HM := hid (Sl.of_own wdE_len hv1)
    clear hv1
    have HW := hid (show Ext w (ext (ext (w.alloc (.cells #[.slice a2 es.length c2] 30)) r1) r2) by (show Ext _ _; repeat (first | with_reducible exact Ext.refl _ | with_reducible refine Ext.ext ?_ _ | with_reducible refine Ext.alloc ?_ _ | refine Ext.drew ?_ | refine Ext.drewN ?_ _ | exact Ext.refl _)))
    generalize ext (ext (w.alloc (.cells #[.slice a2 es.length c2] 30)) r1) r2 = W at *
    have HE1 := hid (HE.out.of enE_len HW.out)
    generalize newL l = m at *
    obtain ⟨a1, c1, rfl, _, _⟩ := HM.out
    go_wp2_with fail
    rw [hk]
    clear hk
    have HT := hid (Sl.take HE1.out k hkl c2 (by omega))
    have HD := hid (Sl.drop HE1.out k hkl)
    have HC := hid (holdsB_cut m es k)
    have hCase : (holdsB m (es.take k) = false) ∨ (holdsB m (es.take k) = true ∧ holdsB m (es.drop k) = false) ∨ (holdsB m (es.take k) = true ∧ holdsB m (es.drop k) = true) := by
      cases holdsB m (es.take k) <;> cases holdsB m (es.drop k) <;> simp
    rcases hCase with hb1 | ⟨hb1, hb2⟩ | ⟨hb1, hb2⟩
    case' inl =>
      have HB1 := hid hb1
      have HB0 := hid (show holdsB m es = false by rw [HC.out, hb1]; rfl)
      clear hb1
      rcases Classical.em (k = c2) with rfl | hck
      case' inl =>
        have HDs := HD.out
        have h0 : es.length - k = 0 := by omega
        simp only [if_true, Nat.sub_self, h0] at HDs
        clear h0
        have HD := hid HDs
        clear HDs
      case' inr =>
        have hck2 : ¬ c2 = k := fun h => hck h.symm
        have HDs := HD.out
        simp only [if_neg hck2] at HDs
        have HD := hid HDs
        clear HDs
      all_goals
        refine wp_region_held_drew (S := fun w' => Ext (W.alloc (.cells #[.slice a1 m.length c1] 27)) w' ∧ w'.cell? ⟨W.heap.size, 0, none⟩ = some (.slice a1 m.length c1)) (by kernel_rfl) (⟨by (show Ext _ _; repeat (first | with_reducible exact Ext.refl _ | with_reducible refine Ext.ext ?_ _ | with_reducible refine Ext.alloc ?_ _ | refine Ext.drew ?_ | refine Ext.drewN ?_ _ | exact Ext.refl _)), by simp [go_sem]⟩) (fun hHeld => ?_)
        refine take_met 0 (oi := ⟨_, _, _, _, _, _⟩) (v := ?_) (by kernel_rfl) rfl (by rfl) (fun _ _ _ h => h) (by assumption) ?_ ?_
        rotate_left 1
        · intro w hSw
          try dsimp only at hSw
          go_simp
          try with_reducible rfl
        (try simp only [Act.put, List.setIfInBounds_toArray, List.set_cons_zero, List.set_cons_succ])
        refine take_met 1 (oi := ⟨_, _, _, _, _, _⟩) (v := ?_) (by kernel_rfl) rfl (by rfl) (fun _ _ _ h => h) (by assumption) ?_ ?_
        rotate_left 1
        · intro w hSw
          try dsimp only at hSw
          go_simp
          try with_reducible rfl
        (try simp only [Act.put, List.setIfInBounds_toArray, List.set_cons_zero, List.set_cons_succ])
        refine take_met 3 (oi := ⟨_, _, _, _, _, _⟩) (v := ?_) (by kernel_rfl) rfl (by rfl) (fun _ _ _ h => h) (by assumption) ?_ ?_
        rotate_left 1
        · intro w hSw
          try dsimp only at hSw
          go_simp
          try with_reducible rfl
        (try simp only [Act.put, List.setIfInBounds_toArray, List.set_cons_zero, List.set_cons_succ])
        refine take_met 4 (oi := ⟨_, _, _, _, _, _⟩) (v := ?_) (by kernel_rfl) rfl (by rfl) (fun _ _ _ h => h) (by assumption) ?_ ?_
        rotate_left 1
        · intro w hSw
          try dsimp only at hSw
          go_simp
          try with_reducible rfl
        (try simp only [Act.put, List.setIfInBounds_toArray, List.set_cons_zero, List.set_cons_succ])
        refine take_met 5 (oi := ⟨_, _, _, _, _, _⟩) (v := ?_) (by kernel_rfl) rfl (by rfl) (fun _ _ _ h => h) (by assumption) ?_ ?_
        rotate_left 1
        · intro w hSw
          try dsimp only at hSw
          go_simp
          try with_reducible rfl
        (try simp only [Act.put, List.setIfInBounds_toArray, List.set_cons_zero, List.set_cons_succ])
        refine take_met 6 (oi := ⟨_, _, _, _, _, _⟩) (v := ?_) (by kernel_rfl) rfl (by rfl) (fun _ _ _ h => h) (by assumption) ?_ ?_
        rotate_left 1
        · intro w hSw
          try dsimp only at hSw
          go_simp
          try with_reducible rfl
        (try simp only [Act.put, List.setIfInBounds_toArray, List.set_cons_zero, List.set_cons_succ])
        refine take_only 2 (oi := ⟨_, _, _, _, _, _⟩) (by kernel_rfl) rfl (fun K hK => ?_)
        go_simp
        first
          | (go_at_call 13; refine (holds_any m es _ _ _ (HM.out.of wdE_len (by (show Ext _ _; repeat (first | with_reducible exact Ext.refl _ | with_reducible refine Ext.ext ?_ _ | with_reducible refine Ext.alloc ?_ _ | refine Ext.drew ?_ | refine Ext.drewN ?_ _ | exact Ext.refl _)))) (HE1.out.of enE_len (by (show Ext _ _; repeat (first | with_reducible exact Ext.refl _ | with_reducible refine Ext.ext ?_ _ | with_reducible refine Ext.alloc ?_ _ | refine Ext.drew ?_ | refine Ext.drewN ?_ _ | exact Ext.refl _))))).mono ?_; rintro e w' ⟨rfl, r3, rfl⟩; rw [HB0.out])
        have hOld := hHeld
        clear hHeld
        refine hK.out _ _ (⟨by (show Ext _ _; repeat (first | with_reducible exact Ext.refl _ | with_reducible refine Ext.ext ?_ _ | with_reducible refine Ext.alloc ?_ _ | refine Ext.drew ?_ | refine Ext.drewN ?_ _ | exact Ext.refl _)), by simp [go_sem]⟩) (fun hHeld => ?_)
        clear hOld hK K
        (try simp only [Act.put, List.setIfInBounds_toArray, List.set_cons_zero, List.set_cons_succ])
        refine take_only 7 (oi := ⟨_, _, _, _, _, _⟩) (by kernel_rfl) rfl (fun K hK => ?_)
        go_simp
        first
          | (go_at_call 13; refine (holds_any m (es.take k) _ _ _ (HM.out.of wdE_len (by (show Ext _ _; repeat (first | with_reducible exact Ext.refl _ | with_reducible refine Ext.ext ?_ _ | with_reducible refine Ext.alloc ?_ _ | refine Ext.drew ?_ | refine Ext.drewN ?_ _ | exact Ext.refl _)))) (HT.out.of enE_len (by (show Ext _ _; repeat (first | with_reducible exact Ext.refl _ | with_reducible refine Ext.ext ?_ _ | with_reducible refine Ext.alloc ?_ _ | refine Ext.drew ?_ | refine Ext.drewN ?_ _ | exact Ext.refl _))))).mono ?_; rintro e w' ⟨rfl, r4, rfl⟩; rw [HB1.out])
        have hOld := hHeld
        clear hHeld
        refine hK.out _ _ (⟨by (show Ext _ _; repeat (first | with_reducible exact Ext.refl _ | with_reducible refine Ext.ext ?_ _ | with_reducible refine Ext.alloc ?_ _ | refine Ext.drew ?_ | refine Ext.drewN ?_ _ | exact Ext.refl _)), by simp [go_sem]⟩) (fun hHeld => ?_)
        clear hOld hK K
        (try simp only [Act.put, List.setIfInBounds_toArray, List.set_cons_zero, List.set_cons_succ])
        refine take_met 8 (oi := ⟨_, _, _, _, _, _⟩) (v := ?_) (by kernel_rfl) rfl (by rfl) (fun _ _ _ h => h) (by assumption) ?_ ?_
        rotate_left 1
        · intro w hSw
          try dsimp only at hSw
          go_simp
          try with_reducible rfl
        (try simp only [Act.put, List.setIfInBounds_toArray, List.set_cons_zero, List.set_cons_succ])
        refine take_unmet 9 (oi := ⟨_, _, _, _, _, _⟩) (by kernel_rfl) rfl (by rfl) (fun _ _ _ h => h) (by assumption) ?_
        (try simp only [Act.put, List.setIfInBounds_toArray, List.set_cons_zero, List.set_cons_succ])
        refine take_unmet 10 (oi := ⟨_, _, _, _, _, _⟩) (by kernel_rfl) rfl (by rfl) (fun _ _ _ h => h) (by assumption) ?_
        (try simp only [Act.put, List.setIfInBounds_toArray, List.set_cons_zero, List.set_cons_succ])
        refine take_unmet 11 (oi := ⟨_, _, _, _, _, _⟩) (by kernel_rfl) rfl (by rfl) (fun _ _ _ h => h) (by assumption) ?_
        (try simp only [Act.put, List.setIfInBounds_toArray, List.set_cons_zero, List.set_cons_succ])
        refine take_unmet 12 (oi := ⟨_, _, _, _, _, _⟩) (by kernel_rfl) rfl (by rfl) (fun _ _ _ h => h) (by assumption) ?_
        (try simp only [Act.put, List.setIfInBounds_toArray, List.set_cons_zero, List.set_cons_succ])
        refine take_unmet 13 (oi := ⟨_, _, _, _, _, _⟩) (by kernel_rfl) rfl (by rfl) (fun _ _ _ h => h) (by assumption) ?_
        (try simp only [Act.put, List.setIfInBounds_toArray, List.set_cons_zero, List.set_cons_succ])
        refine take_met 14 (oi := ⟨_, _, _, _, _, _⟩) (v := ?_) (by kernel_rfl) rfl (by rfl) (fun _ _ _ h => h) (by assumption) ?_ ?_
        rotate_left 1
        · intro w hSw
          try dsimp only at hSw
          go_simp
          try with_reducible rfl
        (try simp only [Act.put, List.setIfInBounds_toArray, List.set_cons_zero, List.set_cons_succ])
        refine take_met 15 (oi := ⟨_, _, _, _, _, _⟩) (v := ?_) (by kernel_rfl) rfl (by rfl) (fun _ _ _ h => h) (by assumption) ?_ ?_
        rotate_left 1
        · intro w hSw
          try dsimp only at hSw
          go_simp
          try with_reducible rfl
        (try simp only [Act.put, List.setIfInBounds_toArray, List.set_cons_zero, List.set_cons_succ])
        refine wpAnyH_done (by kernel_rfl) ?_ _
        obtain ⟨⟨r9, h9⟩, -⟩ := hHeld
        rw [h9]
        clear h9
    case' inr.inl =>
      have HB1 := hid hb1
      have HB2 := hid hb2
      have HB0 := hid (show holdsB m es = false by rw [HC.out, hb1, hb2]; rfl)
      clear hb1 hb2
      rcases Classical.em (k = c2) with rfl | hck
      case' inl =>
        have HDs := HD.out
        have h0 : es.length - k = 0 := by omega
        simp only [if_true, Nat.sub_self, h0] at HDs
        clear h0
        have HD := hid HDs
        clear HDs
      case' inr =>
        have hck2 : ¬ c2 = k := fun h => hck h.symm
        have HDs := HD.out
        simp only [if_neg hck2] at HDs
        have HD := hid HDs
        clear HDs
      all_goals
        refine wp_region_held_drew (S := fun w' => Ext (W.alloc (.cells #[.slice a1 m.length c1] 27)) w' ∧ w'.cell? ⟨W.heap.size, 0, none⟩ = some (.slice a1 m.length c1)) (by kernel_rfl) (⟨by (show Ext _ _; repeat (first | with_reducible exact Ext.refl _ | with_reducible refine Ext.ext ?_ _ | with_reducible refine Ext.alloc ?_ _ | refine Ext.drew ?_ | refine Ext.drewN ?_ _ | exact Ext.refl _)), by simp [go_sem]⟩) (fun hHeld => ?_)
        refine take_met 0 (oi := ⟨_, _, _, _, _, _⟩) (v := ?_) (by kernel_rfl) rfl (by rfl) (fun _ _ _ h => h) (by assumption) ?_ ?_
        rotate_left 1
        · intro w hSw
          try dsimp only at hSw
          go_simp
          try with_reducible rfl
        (try simp only [Act.put, List.setIfInBounds_toArray, List.set_cons_zero, List.set_cons_succ])
        refine take_met 1 (oi := ⟨_, _, _, _, _, _⟩) (v := ?_) (by kernel_rfl) rfl (by rfl) (fun _ _ _ h => h) (by assumption) ?_ ?_
        rotate_left 1
        · intro w hSw
          try dsimp only at hSw
          go_simp
          try with_reducible rfl
        (try simp only [Act.put, List.setIfInBounds_toArray, List.set_cons_zero, List.set_cons_succ])
        refine take_met 3 (oi := ⟨_, _, _, _, _, _⟩) (v := ?_) (by kernel_rfl) rfl (by rfl) (fun _ _ _ h => h) (by assumption) ?_ ?_
        rotate_left 1
        · intro w hSw
          try dsimp only at hSw
          go_simp
          try with_reducible rfl
        (try simp only [Act.put, List.setIfInBounds_toArray, List.set_cons_zero, List.set_cons_succ])
        refine take_met 4 (oi := ⟨_, _, _, _, _, _⟩) (v := ?_) (by kernel_rfl) rfl (by rfl) (fun _ _ _ h => h) (by assumption) ?_ ?_
        rotate_left 1
        · intro w hSw
          try dsimp only at hSw
          go_simp
          try with_reducible rfl
        (try simp only [Act.put, List.setIfInBounds_toArray, List.set_cons_zero, List.set_cons_succ])
        refine take_met 5 (oi := ⟨_, _, _, _, _, _⟩) (v := ?_) (by kernel_rfl) rfl (by rfl) (fun _ _ _ h => h) (by assumption) ?_ ?_
        rotate_left 1
        · intro w hSw
          try dsimp only at hSw
          go_simp
          try with_reducible rfl
        (try simp only [Act.put, List.setIfInBounds_toArray, List.set_cons_zero, List.set_cons_succ])
        refine take_met 6 (oi := ⟨_, _, _, _, _, _⟩) (v := ?_) (by kernel_rfl) rfl (by rfl) (fun _ _ _ h => h) (by assumption) ?_ ?_
        rotate_left 1
        · intro w hSw
          try dsimp only at hSw
          go_simp
          try with_reducible rfl
        (try simp only [Act.put, List.setIfInBounds_toArray, List.set_cons_zero, List.set_cons_succ])
        refine take_only 2 (oi := ⟨_, _, _, _, _, _⟩) (by kernel_rfl) rfl (fun K hK => ?_)
        go_simp
        first
          | (go_at_call 13; refine (holds_any m es _ _ _ (HM.out.of wdE_len (by (show Ext _ _; repeat (first | with_reducible exact Ext.refl _ | with_reducible refine Ext.ext ?_ _ | with_reducible refine Ext.alloc ?_ _ | refine Ext.drew ?_ | refine Ext.drewN ?_ _ | exact Ext.refl _)))) (HE1.out.of enE_len (by (show Ext _ _; repeat (first | with_reducible exact Ext.refl _ | with_reducible refine Ext.ext ?_ _ | with_reducible refine Ext.alloc ?_ _ | refine Ext.drew ?_ | refine Ext.drewN ?_ _ | exact Ext.refl _))))).mono ?_; rintro e w' ⟨rfl, r3, rfl⟩; rw [HB0.out])
        have hOld := hHeld
        clear hHeld
        refine hK.out _ _ (⟨by (show Ext _ _; repeat (first | with_reducible exact Ext.refl _ | with_reducible refine Ext.ext ?_ _ | with_reducible refine Ext.alloc ?_ _ | refine Ext.drew ?_ | refine Ext.drewN ?_ _ | exact Ext.refl _)), by simp [go_sem]⟩) (fun hHeld => ?_)
        clear hOld hK K
        (try simp only [Act.put, List.setIfInBounds_toArray, List.set_cons_zero, List.set_cons_succ])
        refine take_only 7 (oi := ⟨_, _, _, _, _, _⟩) (by kernel_rfl) rfl (fun K hK => ?_)
        go_simp
        first
          | (go_at_call 13; refine (holds_any m (es.take k) _ _ _ (HM.out.of wdE_len (by (show Ext _ _; repeat (first | with_reducible exact Ext.refl _ | with_reducible refine Ext.ext ?_ _ | with_reducible refine Ext.alloc ?_ _ | refine Ext.drew ?_ | refine Ext.drewN ?_ _ | exact Ext.refl _)))) (HT.out.of enE_len (by (show Ext _ _; repeat (first | with_reducible exact Ext.refl _ | with_reducible refine Ext.ext ?_ _ | with_reducible refine Ext.alloc ?_ _ | refine Ext.drew ?_ | refine Ext.drewN ?_ _ | exact Ext.refl _))))).mono ?_; rintro e w' ⟨rfl, r4, rfl⟩; rw [HB1.out])
        have hOld := hHeld
        clear hHeld
        refine hK.out _ _ (⟨by (show Ext _ _; repeat (first | with_reducible exact Ext.refl _ | with_reducible refine Ext.ext ?_ _ | with_reducible refine Ext.alloc ?_ _ | refine Ext.drew ?_ | refine Ext.drewN ?_ _ | exact Ext.refl _)), by simp [go_sem]⟩) (fun hHeld => ?_)
        clear hOld hK K
        (try simp only [Act.put, List.setIfInBounds_toArray, List.set_cons_zero, List.set_cons_succ])
        refine take_met 8 (oi := ⟨_, _, _, _, _, _⟩) (v := ?_) (by kernel_rfl) rfl (by rfl) (fun _ _ _ h => h) (by assumption) ?_ ?_
        rotate_left 1
        · intro w hSw
          try dsimp only at hSw
          go_simp
          try with_reducible rfl
        (try simp only [Act.put, List.setIfInBounds_toArray, List.set_cons_zero, List.set_cons_succ])
        refine take_met 9 (oi := ⟨_, _, _, _, _, _⟩) (v := ?_) (by kernel_rfl) rfl (by rfl) (fun _ _ _ h => h) (by assumption) ?_ ?_
        rotate_left 1
        · intro w hSw
          try dsimp only at hSw
          go_simp
          try with_reducible rfl
        (try simp only [Act.put, List.setIfInBounds_toArray, List.set_cons_zero, List.set_cons_succ])
        refine take_met 10 (oi := ⟨_, _, _, _, _, _⟩) (v := ?_) (by kernel_rfl) rfl (by rfl) (fun _ _ _ h => h) (by assumption) ?_ ?_
        rotate_left 1
        · intro w hSw
          try dsimp only at hSw
          go_simp
          try with_reducible rfl
        (try simp only [Act.put, List.setIfInBounds_toArray, List.set_cons_zero, List.set_cons_succ])
        refine take_met 11 (oi := ⟨_, _, _, _, _, _⟩) (v := ?_) (by kernel_rfl) rfl (by rfl) (fun _ _ _ h => h) (by assumption) ?_ ?_
        rotate_left 1
        · intro w hSw
          try dsimp only at hSw
          go_simp
          try with_reducible rfl
        (try simp only [Act.put, List.setIfInBounds_toArray, List.set_cons_zero, List.set_cons_succ])
        refine take_met 12 (oi := ⟨_, _, _, _, _, _⟩) (v := ?_) (by kernel_rfl) rfl (by rfl) (fun _ _ _ h => h) (by assumption) ?_ ?_
        rotate_left 1
        · intro w hSw
          try dsimp only at hSw
          go_simp
          try with_reducible rfl
        (try simp only [Act.put, List.setIfInBounds_toArray, List.set_cons_zero, List.set_cons_succ])
        refine take_only 13 (oi := ⟨_, _, _, _, _, _⟩) (by kernel_rfl) rfl (fun K hK => ?_)
        go_simp
        first
          | (go_at_call 13; refine (holds_any m (es.drop k) _ _ _ (HM.out.of wdE_len (by (show Ext _ _; repeat (first | with_reducible exact Ext.refl _ | with_reducible refine Ext.ext ?_ _ | with_reducible refine Ext.alloc ?_ _ | refine Ext.drew ?_ | refine Ext.drewN ?_ _ | exact Ext.refl _)))) (HD.out.of enE_len (by (show Ext _ _; repeat (first | with_reducible exact Ext.refl _ | with_reducible refine Ext.ext ?_ _ | with_reducible refine Ext.alloc ?_ _ | refine Ext.drew ?_ | refine Ext.drewN ?_ _ | exact Ext.refl _))))).mono ?_; rintro e w' ⟨rfl, r5, rfl⟩; rw [HB2.out])
        have hOld := hHeld
        clear hHeld
        refine hK.out _ _ (⟨by (show Ext _ _; repeat (first | with_reducible exact Ext.refl _ | with_reducible refine Ext.ext ?_ _ | with_reducible refine Ext.alloc ?_ _ | refine Ext.drew ?_ | refine Ext.drewN ?_ _ | exact Ext.refl _)), by simp [go_sem]⟩) (fun hHeld => ?_)
        clear hOld hK K
        (try simp only [Act.put, List.setIfInBounds_toArray, List.set_cons_zero, List.set_cons_succ])
        refine take_met 14 (oi := ⟨_, _, _, _, _, _⟩) (v := ?_) (by kernel_rfl) rfl (by rfl) (fun _ _ _ h => h) (by assumption) ?_ ?_
        rotate_left 1
        · intro w hSw
          try dsimp only at hSw
          go_simp
          try with_reducible rfl
        (try simp only [Act.put, List.setIfInBounds_toArray, List.set_cons_zero, List.set_cons_succ])
        refine take_met 15 (oi := ⟨_, _, _, _, _, _⟩) (v := ?_) (by kernel_rfl) rfl (by rfl) (fun _ _ _ h => h) (by assumption) ?_ ?_
        rotate_left 1
        · intro w hSw
          try dsimp only at hSw
          go_simp
          try with_reducible rfl
        (try simp only [Act.put, List.setIfInBounds_toArray, List.set_cons_zero, List.set_cons_succ])
        refine wpAnyH_done (by kernel_rfl) ?_ _
        obtain ⟨⟨r9, h9⟩, -⟩ := hHeld
        rw [h9]
        clear h9
    case' inr.inr =>
      have HB1 := hid hb1
      have HB2 := hid hb2
      have HB0 := hid (show holdsB m es = true by rw [HC.out, hb1, hb2]; rfl)
      clear hb1 hb2
      rcases Classical.em (k = c2) with rfl | hck
      case' inl =>
        have HDs := HD.out
        have h0 : es.length - k = 0 := by omega
        simp only [if_true, Nat.sub_self, h0] at HDs
        clear h0
        have HD := hid HDs
        clear HDs
      case' inr =>
        have hck2 : ¬ c2 = k := fun h => hck h.symm
        have HDs := HD.out
        simp only [if_neg hck2] at HDs
        have HD := hid HDs
        clear HDs
      all_goals
        refine wp_region_held_drew (S := fun w' => Ext (W.alloc (.cells #[.slice a1 m.length c1] 27)) w' ∧ w'.cell? ⟨W.heap.size, 0, none⟩ = some (.slice a1 m.length c1)) (by kernel_rfl) (⟨by (show Ext _ _; repeat (first | with_reducible exact Ext.refl _ | with_reducible refine Ext.ext ?_ _ | with_reducible refine Ext.alloc ?_ _ | refine Ext.drew ?_ | refine Ext.drewN ?_ _ | exact Ext.refl _)), by simp [go_sem]⟩) (fun hHeld => ?_)
        refine take_met 0 (oi := ⟨_, _, _, _, _, _⟩) (v := ?_) (by kernel_rfl) rfl (by rfl) (fun _ _ _ h => h) (by assumption) ?_ ?_
        rotate_left 1
        · intro w hSw
          try dsimp only at hSw
          go_simp
          try with_reducible rfl
        (try simp only [Act.put, List.setIfInBounds_toArray, List.set_cons_zero, List.set_cons_succ])
        refine take_met 1 (oi := ⟨_, _, _, _, _, _⟩) (v := ?_) (by kernel_rfl) rfl (by rfl) (fun _ _ _ h => h) (by assumption) ?_ ?_
        rotate_left 1
        · intro w hSw
          try dsimp only at hSw
          go_simp
          try with_reducible rfl
        (try simp only [Act.put, List.setIfInBounds_toArray, List.set_cons_zero, List.set_cons_succ])
        refine take_met 3 (oi := ⟨_, _, _, _, _, _⟩) (v := ?_) (by kernel_rfl) rfl (by rfl) (fun _ _ _ h => h) (by assumption) ?_ ?_
        rotate_left 1
        · intro w hSw
          try dsimp only at hSw
          go_simp
          try with_reducible rfl
        (try simp only [Act.put, List.setIfInBounds_toArray, List.set_cons_zero, List.set_cons_succ])
        refine take_met 4 (oi := ⟨_, _, _, _, _, _⟩) (v := ?_) (by kernel_rfl) rfl (by rfl) (fun _ _ _ h => h) (by assumption) ?_ ?_
        rotate_left 1
        · intro w hSw
          try dsimp only at hSw
          go_simp
          try with_reducible rfl
        (try simp only [Act.put, List.setIfInBounds_toArray, List.set_cons_zero, List.set_cons_succ])
        refine take_met 5 (oi := ⟨_, _, _, _, _, _⟩) (v := ?_) (by kernel_rfl) rfl (by rfl) (fun _ _ _ h => h) (by assumption) ?_ ?_
        rotate_left 1
        · intro w hSw
          try dsimp only at hSw
          go_simp
          try with_reducible rfl
        (try simp only [Act.put, List.setIfInBounds_toArray, List.set_cons_zero, List.set_cons_succ])
        refine take_met 6 (oi := ⟨_, _, _, _, _, _⟩) (v := ?_) (by kernel_rfl) rfl (by rfl) (fun _ _ _ h => h) (by assumption) ?_ ?_
        rotate_left 1
        · intro w hSw
          try dsimp only at hSw
          go_simp
          try with_reducible rfl
        (try simp only [Act.put, List.setIfInBounds_toArray, List.set_cons_zero, List.set_cons_succ])
        refine take_only 2 (oi := ⟨_, _, _, _, _, _⟩) (by kernel_rfl) rfl (fun K hK => ?_)
        go_simp
        first
          | (go_at_call 13; refine (holds_any m es _ _ _ (HM.out.of wdE_len (by (show Ext _ _; repeat (first | with_reducible exact Ext.refl _ | with_reducible refine Ext.ext ?_ _ | with_reducible refine Ext.alloc ?_ _ | refine Ext.drew ?_ | refine Ext.drewN ?_ _ | exact Ext.refl _)))) (HE1.out.of enE_len (by (show Ext _ _; repeat (first | with_reducible exact Ext.refl _ | with_reducible refine Ext.ext ?_ _ | with_reducible refine Ext.alloc ?_ _ | refine Ext.drew ?_ | refine Ext.drewN ?_ _ | exact Ext.refl _))))).mono ?_; rintro e w' ⟨rfl, r3, rfl⟩; rw [HB0.out])
        have hOld := hHeld
        clear hHeld
        refine hK.out _ _ (⟨by (show Ext _ _; repeat (first | with_reducible exact Ext.refl _ | with_reducible refine Ext.ext ?_ _ | with_reducible refine Ext.alloc ?_ _ | refine Ext.drew ?_ | refine Ext.drewN ?_ _ | exact Ext.refl _)), by simp [go_sem]⟩) (fun hHeld => ?_)
        clear hOld hK K
        (try simp only [Act.put, List.setIfInBounds_toArray, List.set_cons_zero, List.set_cons_succ])
        refine take_only 7 (oi := ⟨_, _, _, _, _, _⟩) (by kernel_rfl) rfl (fun K hK => ?_)
        go_simp
        first
          | (go_at_call 13; refine (holds_any m (es.take k) _ _ _ (HM.out.of wdE_len (by (show Ext _ _; repeat (first | with_reducible exact Ext.refl _ | with_reducible refine Ext.ext ?_ _ | with_reducible refine Ext.alloc ?_ _ | refine Ext.drew ?_ | refine Ext.drewN ?_ _ | exact Ext.refl _)))) (HT.out.of enE_len (by (show Ext _ _; repeat (first | with_reducible exact Ext.refl _ | with_reducible refine Ext.ext ?_ _ | with_reducible refine Ext.alloc ?_ _ | refine Ext.drew ?_ | refine Ext.drewN ?_ _ | exact Ext.refl _))))).mono ?_; rintro e w' ⟨rfl, r4, rfl⟩; rw [HB1.out])
        have hOld := hHeld
        clear hHeld
        refine hK.out _ _ (⟨by (show Ext _ _; repeat (first | with_reducible exact Ext.refl _ | with_reducible refine Ext.ext ?_ _ | with_reducible refine Ext.alloc ?_ _ | refine Ext.drew ?_ | refine Ext.drewN ?_ _ | exact Ext.refl _)), by simp [go_sem]⟩) (fun hHeld => ?_)
        clear hOld hK K
        (try simp only [Act.put, List.setIfInBounds_toArray, List.set_cons_zero, List.set_cons_succ])
        refine take_met 8 (oi := ⟨_, _, _, _, _, _⟩) (v := ?_) (by kernel_rfl) rfl (by rfl) (fun _ _ _ h => h) (by assumption) ?_ ?_
        rotate_left 1
        · intro w hSw
          try dsimp only at hSw
          go_simp
          try with_reducible rfl
        (try simp only [Act.put, List.setIfInBounds_toArray, List.set_cons_zero, List.set_cons_succ])
        refine take_met 9 (oi := ⟨_, _, _, _, _, _⟩) (v := ?_) (by kernel_rfl) rfl (by rfl) (fun _ _ _ h => h) (by assumption) ?_ ?_
        rotate_left 1
        · intro w hSw
          try dsimp only at hSw
          go_simp
          try with_reducible rfl
        (try simp only [Act.put, List.setIfInBounds_toArray, List.set_cons_zero, List.set_cons_succ])
        refine take_met 10 (oi := ⟨_, _, _, _, _, _⟩) (v := ?_) (by kernel_rfl) rfl (by rfl) (fun _ _ _ h => h) (by assumption) ?_ ?_
        rotate_left 1
        · intro w hSw
          try dsimp only at hSw
          go_simp
          try with_reducible rfl
        (try simp only [Act.put, List.setIfInBounds_toArray, List.set_cons_zero, List.set_cons_succ])
        refine take_met 11 (oi := ⟨_, _, _, _, _, _⟩) (v := ?_) (by kernel_rfl) rfl (by rfl) (fun _ _ _ h => h) (by assumption) ?_ ?_
        rotate_left 1
        · intro w hSw
          try dsimp only at hSw
          go_simp
          try with_reducible rfl
        (try simp only [Act.put, List.setIfInBounds_toArray, List.set_cons_zero, List.set_cons_succ])
        refine take_met 12 (oi := ⟨_, _, _, _, _, _⟩) (v := ?_) (by kernel_rfl) rfl (by rfl) (fun _ _ _ h => h) (by assumption) ?_ ?_
        rotate_left 1
        · intro w hSw
          try dsimp only at hSw
          go_simp
          try with_reducible rfl
        (try simp only [Act.put, List.setIfInBounds_toArray, List.set_cons_zero, List.set_cons_succ])
        refine take_only 13 (oi := ⟨_, _, _, _, _, _⟩) (by kernel_rfl) rfl (fun K hK => ?_)
        go_simp
        first
          | (go_at_call 13; refine (holds_any m (es.drop k) _ _ _ (HM.out.of wdE_len (by (show Ext _ _; repeat (first | with_reducible exact Ext.refl _ | with_reducible refine Ext.ext ?_ _ | with_reducible refine Ext.alloc ?_ _ | refine Ext.drew ?_ | refine Ext.drewN ?_ _ | exact Ext.refl _)))) (HD.out.of enE_len (by (show Ext _ _; repeat (first | with_reducible exact Ext.refl _ | with_reducible refine Ext.ext ?_ _ | with_reducible refine Ext.alloc ?_ _ | refine Ext.drew ?_ | refine Ext.drewN ?_ _ | exact Ext.refl _))))).mono ?_; rintro e w' ⟨rfl, r5, rfl⟩; rw [HB2.out])
        have hOld := hHeld
        clear hHeld
        refine hK.out _ _ (⟨by (show Ext _ _; repeat (first | with_reducible exact Ext.refl _ | with_reducible refine Ext.ext ?_ _ | with_reducible refine Ext.alloc ?_ _ | refine Ext.drew ?_ | refine Ext.drewN ?_ _ | exact Ext.refl _)), by simp [go_sem]⟩) (fun hHeld => ?_)
        clear hOld hK K
        (try simp only [Act.put, List.setIfInBounds_toArray, List.set_cons_zero, List.set_cons_succ])
        refine take_met 14 (oi := ⟨_, _, _, _, _, _⟩) (v := ?_) (by kernel_rfl) rfl (by rfl) (fun _ _ _ h => h) (by assumption) ?_ ?_
        rotate_left 1
        · intro w hSw
          try dsimp only at hSw
          go_simp
          try with_reducible rfl
        (try simp only [Act.put, List.setIfInBounds_toArray, List.set_cons_zero, List.set_cons_succ])
        refine take_met 15 (oi := ⟨_, _, _, _, _, _⟩) (v := ?_) (by kernel_rfl) rfl (by rfl) (fun _ _ _ h => h) (by assumption) ?_ ?_
        rotate_left 1
        · intro w hSw
          try dsimp only at hSw
          go_simp
          try with_reducible rfl
        (try simp only [Act.put, List.setIfInBounds_toArray, List.set_cons_zero, List.set_cons_succ])
        refine wpAnyH_done (by kernel_rfl) ?_ _
        obtain ⟨⟨r9, h9⟩, -⟩ := hHeld
        rw [h9]
        clear h9
    all_goals
      clear HT HD HC hkl hkl' hkc'
      try generalize Option.map (fun x : Addr => x.add (k * 6)) a2 = a9
      try clear hck hck2
      go_wp2_with fail
      go_call (swap_any m es _ _ _ hl100 HO.out (HM.out.of wdE_len (by (show Ext _ _; repeat (first | with_reducible exact Ext.refl _ | with_reducible refine Ext.ext ?_ _ | with_reducible refine Ext.alloc ?_ _ | refine Ext.drew ?_ | refine Ext.drewN ?_ _ | exact Ext.refl _)))) (HE1.out.of enE_len (by (show Ext _ _; repeat (first | with_reducible exact Ext.refl _ | with_reducible refine Ext.ext ?_ _ | with_reducible refine Ext.alloc ?_ _ | refine Ext.drew ?_ | refine Ext.drewN ?_ _ | exact Ext.refl _))))) as y w' ⟨v2, rfl, ⟨r3, rfl⟩, hv2⟩
      rcases swap_cases m es with ⟨q0, q1, q2, q3⟩ | ⟨e, q1, q3⟩ | q3
      · rw [q3] at hv2 ⊢
        have HM2 := hid hv2
        have HQ := hid (fun e he => split_met q0 q1 q2 (e := e) he)
        generalize setL m es = n at *
        obtain ⟨a3, c3, rfl, _, _⟩ := hv2
        clear q0 q1 q2 q3
        go_wp2_with fail
        go_loopw [60] (fun i wr => ∃ j : Nat, j ≤ es.length ∧ i = .int .i64 j ∧ ∃ r, wr = ext ((ext (ext (W.alloc (.cells #[.slice a1 m.length c1] 27)) r9) r3).alloc (.cells #[.slice a3 n.length c3] 27)) r) (fun i _ => es.length - (intOf i).toNat)
        case atStart => exact ⟨0, by omega, rfl, by (show Ext _ _; repeat (first | with_reducible exact Ext.refl _ | with_reducible refine Ext.ext ?_ _ | with_reducible refine Ext.alloc ?_ _ | refine Ext.drew ?_ | refine Ext.drewN ?_ _ | exact Ext.refl _))⟩
        case round =>
          obtain ⟨j, hj, rfl, r, rfl⟩ := hrel
          by_cases hjl : j < es.length
          · have hd : decide (j < es.length) = true := decide_eq_true hjl
            obtain ⟨hnl, b, o, hab, hbl, hcs⟩ := Sl.at HE1.out (List.getElem?_eq_getElem hjl)
            have HS := hid (HQ.out es[j] (List.getElem_mem hjl))
            generalize es[j] = e at hcs HS
            obtain ⟨loc, val, ver, ref, new, wr⟩ := e
            subst hab
            have k0 := hcs 0 (by omega)
            have k1 := hcs 1 (by omega)
            have k2 := hcs 2 (by omega)
            have k3 := hcs 3 (by omega)
            have k4 := hcs 4 (by omega)
            have k5 := hcs 5 (by omega)
            simp [enE] at k0 k1 k2 k3 k4 k5
            clear hcs hnl
            cases wr
            · have HS2 := hid (show holdsB n [⟨loc, val, ver, ref, new, false⟩] = true from HS.out)
              clear HS
              go_wp2_with fail
              refine wp_region_held_drew (S := fun w' => Ext w w' ∧ w'.cell? ⟨W.heap.size + 1 + r9.new.size + r3.new.size, 0, none⟩ = some (.slice a3 n.length c3) ∧ w'.cell? ⟨W.heap.size + 1 + r9.new.size + r3.new.size + 1 + r.new.size, 0, none⟩ = some (.int .i64 loc) ∧ w'.cell? ⟨W.heap.size + 1 + r9.new.size + r3.new.size + 1 + r.new.size, 1, none⟩ = some (.int .i64 val) ∧ w'.cell? ⟨W.heap.size + 1 + r9.new.size + r3.new.size + 1 + r.new.size, 2, none⟩ = some (.int .u32 ver) ∧ w'.cell? ⟨W.heap.size + 1 + r9.new.size + r3.new.size + 1 + r.new.size, 3, none⟩ = some (.int .u32 ref) ∧ w'.cell? ⟨W.heap.size + 1 + r9.new.size + r3.new.size + 1 + r.new.size, 4, none⟩ = some (.int .i64 new) ∧ w'.cell? ⟨W.heap.size + 1 + r9.new.size + r3.new.size + 1 + r.new.size, 5, none⟩ = some (.bool false)) (by kernel_rfl) (⟨HW.out.trans (by (show Ext _ _; repeat (first | with_reducible exact Ext.refl _ | with_reducible refine Ext.ext ?_ _ | with_reducible refine Ext.alloc ?_ _ | refine Ext.drew ?_ | refine Ext.drewN ?_ _ | exact Ext.refl _))), by simp [go_sem], by simp [go_sem], by simp [go_sem], by simp [go_sem], by simp [go_sem], by simp [go_sem], by simp [go_sem]⟩) (fun hHeld => ?_)
              refine take_met 0 (oi := ⟨_, _, _, _, _, _⟩) (v := ?_) (by kernel_rfl) rfl (by rfl) (fun _ _ _ h => h) (by assumption) ?_ ?_
              rotate_left 1
              · intro w hSw
                try dsimp only at hSw
                go_simp
                try with_reducible rfl
              (try simp only [Act.put, List.setIfInBounds_toArray, List.set_cons_zero, List.set_cons_succ])
              refine take_met 1 (oi := ⟨_, _, _, _, _, _⟩) (v := ?_) (by kernel_rfl) rfl (by rfl) (fun _ _ _ h => h) (by assumption) ?_ ?_
              rotate_left 1
              · intro w hSw
                try dsimp only at hSw
                go_simp
                try with_reducible rfl
              (try simp only [Act.put, List.setIfInBounds_toArray, List.set_cons_zero, List.set_cons_succ])
              refine take_met 4 (oi := ⟨_, _, _, _, _, _⟩) (v := ?_) (by kernel_rfl) rfl (by rfl) (fun _ _ _ h => h) (by assumption) ?_ ?_
              rotate_left 1
              · intro w hSw
                try dsimp only at hSw
                go_simp
                try with_reducible rfl
              (try simp only [Act.put, List.setIfInBounds_toArray, List.set_cons_zero, List.set_cons_succ])
              refine take_met 5 (oi := ⟨_, _, _, _, _, _⟩) (v := ?_) (by kernel_rfl) rfl (by rfl) (fun _ _ _ h => h) (by assumption) ?_ ?_
              rotate_left 1
              · intro w hSw
                try dsimp only at hSw
                go_simp
                try with_reducible rfl
              (try simp only [Act.put, List.setIfInBounds_toArray, List.set_cons_zero, List.set_cons_succ])
              refine take_only 2 (oi := ⟨_, _, _, _, _, _⟩) (by kernel_rfl) rfl (fun K hK => ?_)
              go_simp
              have hOld := hHeld
              clear hHeld
              refine hK.out _ _ (⟨HW.out.trans (by (show Ext _ _; repeat (first | with_reducible exact Ext.refl _ | with_reducible refine Ext.ext ?_ _ | with_reducible refine Ext.alloc ?_ _ | refine Ext.drew ?_ | refine Ext.drewN ?_ _ | exact Ext.refl _))), by simp [go_sem], by simp [go_sem], by simp [go_sem], by simp [go_sem], by simp [go_sem], by simp [go_sem], by simp [go_sem]⟩) (fun hHeld => ?_)
              clear hOld hK K
              (try simp only [Act.put, List.setIfInBounds_toArray, List.set_cons_zero, List.set_cons_succ])
              refine take_only 3 (oi := ⟨_, _, _, _, _, _⟩) (by kernel_rfl) rfl (fun K hK => ?_)
              go_simp
              first
                | (go_at_call 13; refine (holds_any n [⟨loc, val, ver, ref, new, false⟩] _ _ _ ?_ ?_).mono ?_; (focus exact HM2.out.of wdE_len (by (show Ext _ _; repeat (first | with_reducible exact Ext.refl _ | with_reducible refine Ext.ext ?_ _ | with_reducible refine Ext.alloc ?_ _ | refine Ext.drew ?_ | refine Ext.drewN ?_ _ | exact Ext.refl _)))); (focus exact lit_entries 1 rfl (by omega) rfl rfl (by simp [go_sem])); rintro e w' ⟨rfl, r5, rfl⟩; rw [HS2.out])
              have hOld := hHeld
              clear hHeld
              refine hK.out _ _ (⟨HW.out.trans (by (show Ext _ _; repeat (first | with_reducible exact Ext.refl _ | with_reducible refine Ext.ext ?_ _ | with_reducible refine Ext.alloc ?_ _ | refine Ext.drew ?_ | refine Ext.drewN ?_ _ | exact Ext.refl _))), by simp [go_sem], by simp [go_sem], by simp [go_sem], by simp [go_sem], by simp [go_sem], by simp [go_sem], by simp [go_sem]⟩) (fun hHeld => ?_)
              clear hOld hK K
              (try simp only [Act.put, List.setIfInBounds_toArray, List.set_cons_zero, List.set_cons_succ])
              refine take_met 6 (oi := ⟨_, _, _, _, _, _⟩) (v := ?_) (by kernel_rfl) rfl (by rfl) (fun _ _ _ h => h) (by assumption) ?_ ?_
              rotate_left 1
              · intro w hSw
                try dsimp only at hSw
                go_simp
                try with_reducible rfl
              (try simp only [Act.put, List.setIfInBounds_toArray, List.set_cons_zero, List.set_cons_succ])
              refine wpAnyH_done (by kernel_rfl) ?_ _
              go_wp2_with fail
              go_roundw
              case rel => exact ⟨j + 1, by omega, by go_num, by (show Ext _ _; repeat (first | with_reducible exact Ext.refl _ | with_reducible refine Ext.ext ?_ _ | with_reducible refine Ext.alloc ?_ _ | refine Ext.drew ?_ | refine Ext.drewN ?_ _ | exact Ext.refl _))⟩
              case measure => simp [intOf]; omega
            · have HS2 := hid (show holdsB n [⟨loc, val, ver, ref, new, true⟩] = false from HS.out)
              clear HS
              go_wp2_with fail
              refine wp_region_held_drew (S := fun w' => Ext w w' ∧ w'.cell? ⟨W.heap.size + 1 + r9.new.size + r3.new.size, 0, none⟩ = some (.slice a3 n.length c3) ∧ w'.cell? ⟨W.heap.size + 1 + r9.new.size + r3.new.size + 1 + r.new.size, 0, none⟩ = some (.int .i64 loc) ∧ w'.cell? ⟨W.heap.size + 1 + r9.new.size + r3.new.size + 1 + r.new.size, 1, none⟩ = some (.int .i64 val) ∧ w'.cell? ⟨W.heap.size + 1 + r9.new.size + r3.new.size + 1 + r.new.size, 2, none⟩ = some (.int .u32 ver) ∧ w'.cell? ⟨W.heap.size + 1 + r9.new.size + r3.new.size + 1 + r.new.size, 3, none⟩ = some (.int .u32 ref) ∧ w'.cell? ⟨W.heap.size + 1 + r9.new.size + r3.new.size + 1 + r.new.size, 4, none⟩ = some (.int .i64 new) ∧ w'.cell? ⟨W.heap.size + 1 + r9.new.size + r3.new.size + 1 + r.new.size, 5, none⟩ = some (.bool true)) (by kernel_rfl) (⟨HW.out.trans (by (show Ext _ _; repeat (first | with_reducible exact Ext.refl _ | with_reducible refine Ext.ext ?_ _ | with_reducible refine Ext.alloc ?_ _ | refine Ext.drew ?_ | refine Ext.drewN ?_ _ | exact Ext.refl _))), by simp [go_sem], by simp [go_sem], by simp [go_sem], by simp [go_sem], by simp [go_sem], by simp [go_sem], by simp [go_sem]⟩) (fun hHeld => ?_)
              refine take_met 0 (oi := ⟨_, _, _, _, _, _⟩) (v := ?_) (by kernel_rfl) rfl (by rfl) (fun _ _ _ h => h) (by assumption) ?_ ?_
              rotate_left 1
              · intro w hSw
                try dsimp only at hSw
                go_simp
                try with_reducible rfl
              (try simp only [Act.put, List.setIfInBounds_toArray, List.set_cons_zero, List.set_cons_succ])
              refine take_met 1 (oi := ⟨_, _, _, _, _, _⟩) (v := ?_) (by kernel_rfl) rfl (by rfl) (fun _ _ _ h => h) (by assumption) ?_ ?_
              rotate_left 1
              · intro w hSw
                try dsimp only at hSw
                go_simp
                try with_reducible rfl
              (try simp only [Act.put, List.setIfInBounds_toArray, List.set_cons_zero, List.set_cons_succ])
              refine take_met 4 (oi := ⟨_, _, _, _, _, _⟩) (v := ?_) (by kernel_rfl) rfl (by rfl) (fun _ _ _ h => h) (by assumption) ?_ ?_
              rotate_left 1
              · intro w hSw
                try dsimp only at hSw
                go_simp
                try with_reducible rfl
              (try simp only [Act.put, List.setIfInBounds_toArray, List.set_cons_zero, List.set_cons_succ])
              refine take_met 5 (oi := ⟨_, _, _, _, _, _⟩) (v := ?_) (by kernel_rfl) rfl (by rfl) (fun _ _ _ h => h) (by assumption) ?_ ?_
              rotate_left 1
              · intro w hSw
                try dsimp only at hSw
                go_simp
                try with_reducible rfl
              (try simp only [Act.put, List.setIfInBounds_toArray, List.set_cons_zero, List.set_cons_succ])
              refine take_only 2 (oi := ⟨_, _, _, _, _, _⟩) (by kernel_rfl) rfl (fun K hK => ?_)
              go_simp
              have hOld := hHeld
              clear hHeld
              refine hK.out _ _ (⟨HW.out.trans (by (show Ext _ _; repeat (first | with_reducible exact Ext.refl _ | with_reducible refine Ext.ext ?_ _ | with_reducible refine Ext.alloc ?_ _ | refine Ext.drew ?_ | refine Ext.drewN ?_ _ | exact Ext.refl _))), by simp [go_sem], by simp [go_sem], by simp [go_sem], by simp [go_sem], by simp [go_sem], by simp [go_sem], by simp [go_sem]⟩) (fun hHeld => ?_)
              clear hOld hK K
              (try simp only [Act.put, List.setIfInBounds_toArray, List.set_cons_zero, List.set_cons_succ])
              refine take_only 3 (oi := ⟨_, _, _, _, _, _⟩) (by kernel_rfl) rfl (fun K hK => ?_)
              go_simp
              first
                | (go_at_call 13; refine (holds_any n [⟨loc, val, ver, ref, new, true⟩] _ _ _ ?_ ?_).mono ?_; (focus exact HM2.out.of wdE_len (by (show Ext _ _; repeat (first | with_reducible exact Ext.refl _ | with_reducible refine Ext.ext ?_ _ | with_reducible refine Ext.alloc ?_ _ | refine Ext.drew ?_ | refine Ext.drewN ?_ _ | exact Ext.refl _)))); (focus exact lit_entries 1 rfl (by omega) rfl rfl (by simp [go_sem])); rintro e w' ⟨rfl, r5, rfl⟩; rw [HS2.out])
              have hOld := hHeld
              clear hHeld
              refine hK.out _ _ (⟨HW.out.trans (by (show Ext _ _; repeat (first | with_reducible exact Ext.refl _ | with_reducible refine Ext.ext ?_ _ | with_reducible refine Ext.alloc ?_ _ | refine Ext.drew ?_ | refine Ext.drewN ?_ _ | exact Ext.refl _))), by simp [go_sem], by simp [go_sem], by simp [go_sem], by simp [go_sem], by simp [go_sem], by simp [go_sem], by simp [go_sem]⟩) (fun hHeld => ?_)
              clear hOld hK K
              (try simp only [Act.put, List.setIfInBounds_toArray, List.set_cons_zero, List.set_cons_succ])
              refine take_met 6 (oi := ⟨_, _, _, _, _, _⟩) (v := ?_) (by kernel_rfl) rfl (by rfl) (fun _ _ _ h => h) (by assumption) ?_ ?_
              rotate_left 1
              · intro w hSw
                try dsimp only at hSw
                go_simp
                try with_reducible rfl
              (try simp only [Act.put, List.setIfInBounds_toArray, List.set_cons_zero, List.set_cons_succ])
              refine wpAnyH_done (by kernel_rfl) ?_ _
              go_wp2_with fail
              go_roundw
              case rel => exact ⟨j + 1, by omega, by go_num, by (show Ext _ _; repeat (first | with_reducible exact Ext.refl _ | with_reducible refine Ext.ext ?_ _ | with_reducible refine Ext.alloc ?_ _ | refine Ext.drew ?_ | refine Ext.drewN ?_ _ | exact Ext.refl _))⟩
              case measure => simp [intOf]; omega
          · have hd : decide (j < es.length) = false := decide_eq_false hjl
            go_wp2_with fail
            go_call (awake_any _) as y w' ⟨rfl, r5, rfl⟩
            go_wp2_with fail
            go_ret
            exact ⟨rfl, HW.out.trans (by (show Ext _ _; repeat (first | with_reducible exact Ext.refl _ | with_reducible refine Ext.ext ?_ _ | with_reducible refine Ext.alloc ?_ _ | refine Ext.drew ?_ | refine Ext.drewN ?_ _ | exact Ext.refl _)))⟩
      · rw [q3] at hv2 ⊢
        have q1' : (e != 0) = true := by simpa using q1
        obtain ⟨a3, c3, rfl, _, _⟩ := hv2
        clear q1 q3
        go_wp2_with fail
        go_call (awake_any _) as y w' ⟨rfl, r5, rfl⟩
        go_wp2_with fail
        go_ret
        exact ⟨rfl, HW.out.trans (by (show Ext _ _; repeat (first | with_reducible exact Ext.refl _ | with_reducible refine Ext.ext ?_ _ | with_reducible refine Ext.alloc ?_ _ | refine Ext.drew ?_ | refine Ext.drewN ?_ _ | exact Ext.refl _)))⟩
      · rw [q3] at hv2 ⊢
        obtain ⟨a3, c3, rfl, _, _⟩ := hv2
        clear q3
        go_wp2_with fail
        go_call (awake_any _) as y w' ⟨rfl, r5, rfl⟩
        go_wp2_with fail
        go_ret
        exact ⟨rfl, HW.out.trans (by (show Ext _ _; repeat (first | with_reducible exact Ext.refl _ | with_reducible refine Ext.ext ?_ _ | with_reducible refine Ext.alloc ?_ _ | refine Ext.drew ?_ | refine Ext.drewN ?_ _ | exact Ext.refl _)))⟩

end Go.Proofs.Ytdodipejckigoaa
