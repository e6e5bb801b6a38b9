/- Plain: what holds in the recovery code's loop; its phases, whichever comes up. -/
import Derived.Test.YtdpbcfjfnclpiaaDoorPk22
namespace Go.Proofs.YtdpbcfjfnclpiaaDoor
set_option linter.unusedSimpArgs false
set_option linter.unusedVariables false
open Go.RowKit
structure CInv (sz : Nat) (s : CS) : Prop where
 some : s.loads = [] → s.part ≠ 0 → s.loaded ≠ []
 low : ∀ f ∈ s.loaded, f.1 < sz ∧ WdOk f.2
 at_ : ∀ p ∈ s.pl, p ≤ 100000
 len : s.loaded.length ≤ 100000
theorem CInv.nil {sz : Nat} {s : CS} {l : List Nat} {pt : Nat} (h : CInv sz s) (hl : l ≠ []) : CInv sz { s with loaded := [], loads := l, part := pt } :=
 ⟨fun h0 => absurd h0 hl, fun f hf => (by cases hf), h.at_, Nat.zero_le _⟩
theorem cFin_inv {K : RK} {sz : Nat} {s : CS} {p : Nat} {rest : List Nat} (h : CInv sz s) (hr : ∀ q ∈ rest, q ≤ 100000) : CInv sz (cFin K s p rest) := by
 unfold cFin
 split
 ·exact ⟨fun _ h0 => absurd rfl h0, h.low, hr, h.len⟩
 ·exact ⟨fun _ h0 => absurd rfl h0, h.low, hr, h.len⟩
theorem cPlain_inv {K : RK} {sz : Nat} {s : CS} (h : CInv sz s) (hl : s.loads = []) : CInv sz (cPlain K s).1 := by
 unfold cPlain
 split
 ·exact h
 ·rename_i p r hp
  have hr : ∀ q ∈ r, q ≤ 100000 := fun q hq => h.at_ q (by rw [hp]; exact List.mem_cons_of_mem _ hq)
  split
  ·exact h.nil (by simp)
  split
  ·split
   ·exact ⟨fun h0 => (by cases h0), h.low, h.at_, h.len⟩
   ·exact cFin_inv h hr
  split
  ·split
   ·rename_i hn
    refine ⟨fun h0 => ?_, h.low, h.at_, h.len⟩
    exfalso
    have h1 := congrArg List.length h0
    simp only [List.length_append, List.length_map, List.length_range, List.length_nil] at h1
    omega
   ·exact cFin_inv (s := { s with part := 3 }) ⟨fun h0 h1 => h.some hl (by omega), h.low, h.at_, h.len⟩ hr
  ·exact cFin_inv h hr
theorem cSettle_inv {sz : Nat} {s : CS} (h : CInv sz s) : CInv sz (cSettle s).1 := by
 unfold cSettle
 split
 ·exact h
 ·split
  ·exact h.nil (by simp)
  ·dsimp only; split <;> exact ⟨fun _ h0 => absurd rfl h0, h.low, h.at_, h.len⟩
theorem cQuiet_inv {sz : Nat} {s : CS} (h : CInv sz s) : CInv sz (cQuiet s).1 := by
 unfold cQuiet
 split
 ·exact h
 ·split
  ·exact h.nil (by simp)
  ·dsimp only; split <;> exact ⟨fun _ h0 => absurd rfl h0, h.low, h.at_, h.len⟩
theorem cPhase_inv {K : RK} {sz : Nat} {s : CS} (h : CInv sz s) (hl : s.loads = []) : CInv sz (cPhase K s).1 := by
 unfold cPhase
 split
 ·exact cPlain_inv h hl
 split
 ·exact cSettle_inv h
 split
 ·exact cQuiet_inv h
 ·exact ⟨h.some, h.low, h.at_, h.len⟩
theorem cRound_inv {K : RK} {sz : Nat} {s : CS} (h : CInv sz s) (hl : s.loads = []) : CInv sz (if (cPhase K s).2 = true then { (cPhase K s).1 with step := (cPhase K s).1.step + 1 } else (cPhase K s).1) := by
 have := cPhase_inv (K := K) h hl
 split
 ·exact ⟨this.some, this.low, this.at_, this.len⟩
 ·exact this
theorem last_of {s : CS} (h : s.loaded ≠ []) : ∃ k p' x y z, s.loaded.length = k + 1 ∧ s.loaded[k]? = some (p', (x, y, z)) := by
 have hl : 0 < s.loaded.length := List.length_pos_iff.2 h
 obtain ⟨⟨p', x, y, z⟩, hx⟩ : ∃ f, s.loaded[s.loaded.length - 1]? = some f := ⟨_, List.getElem?_eq_getElem (by omega)⟩
 exact ⟨s.loaded.length - 1, p', x, y, z, by omega, hx⟩
theorem plain_all [LoC] (K : RK) {t c b : Int} {sz : Nat} (hKA : KAt K t c b sz) {w : World} {g : Nat} {s : CS} (h : Cx t c b w g s) (ha : s.acts = []) (hlo : s.loads = []) (hb : s.stored.length ≤ 50000) (hI : CInv sz s) (hs : ∀ w', Grn g w w' → Szs w') :
 Calls Tryd.prog 98 #[.pointer (some ⟨g, 0, none⟩)] w fun e w' => e = .returned (.bool (cPlain K s).2) ∧ Cx t c b w' g (cPlain K s).1 ∧ Grn g w w' := by
 obtain ⟨pa, sa, ta, la, aa, ra, fa, pc, sc, tc, lc, ac, rc, fc, hcd⟩ := h
 have ha1 : s.acts.length ≤ 100000 := by rw [ha]; simp
 cases hpl : s.pl with
 | nil => exact plainN_any K hcd hpl
 | cons p rest =>
  have hat : p ≤ 100000 := hI.at_ p (by rw [hpl]; exact List.mem_cons_self ..)
  by_cases hp : s.part = 0
  ·exact plain0_any K hcd p rest hpl hp
  ·obtain ⟨k, p', x, y, z, hk1, hk2⟩ := last_of (hI.some hlo hp)
   obtain ⟨⟨p0, x0, y0, z0⟩, hk3⟩ : ∃ f, s.loaded[0]? = some f := ⟨_, List.getElem?_eq_getElem (by omega)⟩
   have hc : s.part = 1 ∨ s.part = 2 ∨ 3 ≤ s.part := by omega
   rcases hc with hc | hc | hc
   ·exact plain1_any K hKA hcd ha1 (by omega) hI.len hs p rest hpl hat hI.low k p' p0 x y z x0 y0 z0 hk1 hk2 hk3 hc
   ·exact plain2_any K hKA hcd ha1 (by omega) hI.len hs p rest hpl hat hI.low k p' p0 x y z x0 y0 z0 hk1 hk2 hk3 hc hlo
   ·exact plain3_any K hKA hcd ha1 (by omega) hI.len hs p rest hpl hat hI.low k p' p0 x y z x0 y0 z0 hk1 hk2 hk3 hc
theorem settle_all [LoC] {t c b : Int} {sz : Nat} {w : World} {g : Nat} {s : CS} (h : Cx t c b w g s) (ha : s.acts = []) (hlo : s.loads = []) (hb : s.stored.length ≤ 50000) (hI : CInv sz s) :
 Calls Tryd.prog 100 #[.pointer (some ⟨g, 0, none⟩)] w fun e w' => e = .returned (.bool (cSettle s).2) ∧ Cx t c b w' g (cSettle s).1 ∧ Grn g w w' := by
 by_cases hp : s.part = 0
 ·exact settle_any h (by rw [ha]; simp) (by omega) 0 0 0 0 0 (fun h0 => absurd hp h0)
 ·obtain ⟨k, p', x, y, z, hk1, hk2⟩ := last_of (hI.some hlo hp)
  exact settle_any h (by rw [ha]; simp) (by omega) k p' x y z (fun _ => ⟨hk1, hk2, (hI.low _ (List.mem_of_getElem? hk2)).2⟩)
theorem quiet_all [LoC] {t c b : Int} {sz : Nat} {w : World} {g : Nat} {s : CS} (h : Cx t c b w g s) (ha : s.acts = []) (hlo : s.loads = []) (hb : s.stored.length ≤ 50000) (hI : CInv sz s) :
 Calls Tryd.prog 101 #[.pointer (some ⟨g, 0, none⟩)] w fun e w' => e = .returned (.bool (cQuiet s).2) ∧ Cx t c b w' g (cQuiet s).1 ∧ Grn g w w' := by
 by_cases hp : s.part = 0
 ·exact quiet_any h (by rw [ha]; simp) (by omega) 0 0 0 0 0 (fun h0 => absurd hp h0)
 ·obtain ⟨k, p', x, y, z, hk1, hk2⟩ := last_of (hI.some hlo hp)
  exact quiet_any h (by rw [ha]; simp) (by omega) k p' x y z (fun _ => ⟨hk1, hk2, (hI.low _ (List.mem_of_getElem? hk2)).2⟩)
def phF (k : Nat) : FuncId := if k = 0 then 98 else if k = 2 then 100 else if k = 3 then 101 else 99
theorem phase_any [LoC] (K : RK) {t c b : Int} {sz : Nat} (hKA : KAt K t c b sz) {w : World} {g : Nat} {s : CS} (h : Cx t c b w g s) (ha : s.acts = []) (hlo : s.loads = []) (hb : s.stored.length ≤ 50000) (hI : CInv sz s) (hs : ∀ w', Grn g w w' → Szs w') :
 Calls Tryd.prog (phF s.step) #[.pointer (some ⟨g, 0, none⟩)] w fun e w' => e = .returned (.bool (cPhase K s).2) ∧ Cx t c b w' g (cPhase K s).1 ∧ Grn g w w' := by
 unfold phF cPhase
 by_cases h0 : s.step = 0
 ·rw [if_pos h0, if_pos h0]; exact plain_all K hKA h ha hlo hb hI hs
 ·by_cases h2 : s.step = 2
  ·rw [if_neg h0, if_neg h0, if_pos h2, if_pos h2]; exact settle_all h ha hlo hb hI
  ·by_cases h3 : s.step = 3
   ·rw [if_neg h0, if_neg h0, if_neg h2, if_neg h2, if_pos h3, if_pos h3]; exact quiet_all h ha hlo hb hI
   ·rw [if_neg h0, if_neg h0, if_neg h2, if_neg h2, if_neg h3, if_neg h3]
    exact keep_any h (by rw [ha]; simp) (by omega)
set_option maxHeartbeats 1000000 in
theorem steps_any (w : World) : Calls Tryd.prog 97 #[] w fun e w' => ∃ q, e = .returned (.slice (some ⟨q, 0, none⟩) 5 5) ∧ Blk w' q [.func (.func (phF 0)) #[] #[], .func (.func (phF 1)) #[] #[], .func (.func (phF 2)) #[] #[], .func (.func (phF 3)) #[] #[], .func (.func (phF 4)) #[] #[]] ∧ ∃ r, w' = ext w r := by
 go_enter Tryd.func97, Tryd.ntmps97
 go_wp2_with fail
 go_ret
 exact ⟨_, rfl, Blk.new _ _ rfl rfl, by (show Ext _ _; repeat first | (with_reducible first | (refine xH ?_; assumption) | exact xR _ | refine xX ?_ _ | refine xA ?_ _) | refine xD ?_ | refine xN ?_ _ | exact xR _)⟩
end Go.Proofs.YtdpbcfjfnclpiaaDoor
