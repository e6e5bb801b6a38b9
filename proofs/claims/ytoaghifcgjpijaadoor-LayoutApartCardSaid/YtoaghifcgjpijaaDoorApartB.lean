/- Plain numbers for the statement LayoutApart: where each location lies, whose its line is. No program is walked. -/
import Derived.Test.YtoaghifcgjpijaaDoorApartA
namespace Go.Proofs.YtoaghifcgjpijaaDoor
open Go.RowKit

/-- Whose line is it? -/
def own (T G4 G5 G6 : Nat) (l : Int) : ByteArray :=
  if l = 0 then ⟨#[97, 108, 108]⟩ else if l ≤ T then nm 116 (48 + l.toNat) else if l ≤ 2 * T then nm 116 (48 + (l - T).toNat) else if l < G4 then ⟨#[99, 101, 108, 108, 115]⟩
  else if l < G5 then nm 116 (49 + ((l - G4) / 13).toNat) else nm 98 (48 + ((l - G6) / 4).toNat)

theorem own_all (T G4 G5 G6 : Nat) {a : Int} (h0 : 0 ≤ a) (h1 : a < 2) : own T G4 G5 G6 (a / 8) = ⟨#[97, 108, 108]⟩ := by
  have : a / 8 = 0 := by omega
  unfold own; rw [if_pos this]
theorem own_ann {T G4 G5 G6 k : Nat} (hk : k < T) {a : Int} (h0 : 8 * ((k : Int) + 1) ≤ a) (h1 : a < 8 * ((k : Int) + 1) + 8) : own T G4 G5 G6 (a / 8) = nm 116 (49 + k) := by
  have : a / 8 = (k : Int) + 1 := by omega
  unfold own
  rw [this, if_neg (by omega), if_pos (by omega)]
  congr 1; omega
theorem own_rec {T G4 G5 G6 k : Nat} (hk : k < T) {a : Int} (h0 : 8 * ((T : Int) + k + 1) ≤ a) (h1 : a < 8 * ((T : Int) + k + 1) + 8) : own T G4 G5 G6 (a / 8) = nm 116 (49 + k) := by
  have : a / 8 = (T : Int) + k + 1 := by omega
  unfold own
  rw [this, if_neg (by omega), if_neg (by omega), if_pos (by omega)]
  congr 1; omega
theorem own_cell {T G4 G5 G6 : Nat} {a : Int} (h0 : 8 * (2 * (T : Int) + 1) ≤ a) (h1 : a < 8 * (G4 : Int)) : own T G4 G5 G6 (a / 8) = ⟨#[99, 101, 108, 108, 115]⟩ := by
  unfold own
  rw [if_neg (by omega), if_neg (by omega), if_neg (by omega), if_pos (by omega)]
theorem own_slot {T G4 G5 G6 k : Nat} (hk : k < T) (h4 : 2 * T + 1 ≤ G4) (h5 : G5 = G4 + 13 * T) {a : Int} (h0 : 8 * (G4 : Int) + 104 * k ≤ a) (h1 : a < 8 * (G4 : Int) + 104 * k + 104) : own T G4 G5 G6 (a / 8) = nm 116 (49 + k) := by
  unfold own
  rw [if_neg (by omega), if_neg (by omega), if_neg (by omega), if_neg (by omega), if_pos (by omega)]
  congr 2; omega
theorem own_block {T G4 G5 G6 k : Nat} (h4 : 2 * T + 1 ≤ G4) (h5 : G5 = G4 + 13 * T) (h6 : G5 ≤ G6) {a : Int} (h0 : 8 * (G6 : Int) + 32 * k ≤ a) (h1 : a < 8 * (G6 : Int) + 32 * k + 32) : own T G4 G5 G6 (a / 8) = nm 98 (48 + k) := by
  unfold own
  rw [if_neg (by omega), if_neg (by omega), if_neg (by omega), if_neg (by omega), if_neg (by omega)]
  congr 2; omega

/-- All numbers of a valid layout. -/
theorem nums {T C B : Nat} (hr : rightN T C B = true) : ∃ G4 G5 G6 : Nat, (fromN T C B 1 = 8 ∧ fromN T C B 2 = 8 + 8 * T ∧ fromN T C B 3 = 8 + 16 * T ∧ fromN T C B 4 = 8 * G4 ∧ fromN T C B 5 = 8 * G5 ∧ fromN T C B 6 = 8 * G6) ∧
    G5 = G4 + 13 * T ∧ G5 ≤ G6 ∧ sizeN T C B = 8 * G6 + 32 * B ∧ 8 * G6 + 32 * B ≤ 4096 ∧ 8 + 16 * T + C ≤ 8 * G4 ∧ 2 * T + 1 ≤ G4 ∧ 1 ≤ T ∧ T ≤ 8 ∧ 1 ≤ C ∧ C ≤ 2048 ∧ B ≤ 64 := by
  obtain ⟨⟨q1, q2, q3, q4, q5, q6⟩, q7⟩ := right_lok hr
  obtain ⟨f0, f1, f2, f3, f4, f5, f6⟩ := from_vals T C B
  have f7 : fromN T C B 7 = fromN T C B 6 + 32 * B := by
    show fromN T C B 6 + longN T C B 6 = _
    unfold longN upN manyN szN
    simp
    omega
  have hp : padN C = (8 - C % 8) % 8 := rfl
  refine ⟨(8 + 16 * T + C + padN C) / 8, (8 + 16 * T + C + padN C) / 8 + 13 * T, (8 + 16 * T + C + padN C) / 8 + 13 * T + (if 0 < B then 1 else 0), ⟨by omega, by omega, by omega, by omega, by omega, ?_⟩, rfl, by omega, ?_, ?_, by omega, by omega, by omega, by omega, by omega, by omega, by omega⟩
  · rw [f6]; split <;> simp_all <;> omega
  · unfold sizeN; rw [if_pos hr, f7, f6]; split <;> simp_all <;> omega
  · rw [f7, f6] at q7; split <;> simp_all <;> omega

/-- The state of the run: what is named is seen (V), lines are their owners'. -/
def Good (W w : World) (N : Nat) (V : Int → Prop) (o : Int → ByteArray) : Prop :=
  ∃ n f g, St W w n f g ∧ n ≤ N ∧ (∀ a, f a = true → V a) ∧ ∀ l, g l = ByteArray.empty ∨ g l = o l
theorem Good.ofx {W w w' : World} {N : Nat} {V : Int → Prop} {o : Int → ByteArray} (h : Good W w N V o) (he : Ext w w') : Good W w' N V o := by
  obtain ⟨n, f, g, h1, h2⟩ := h; exact ⟨n, f, g, h1.ofx he, h2⟩
theorem Good.mono {W w : World} {N N' : Nat} {V V' : Int → Prop} {o : Int → ByteArray} (h : Good W w N V o) (hN : N ≤ N') (hV : ∀ a, V a → V' a) : Good W w N' V' o := by
  obtain ⟨n, f, g, h1, h2, h3, h4⟩ := h; exact ⟨n, f, g, h1, by omega, fun a ha => hV a (h3 a ha), h4⟩
theorem Good.ext {W w : World} {N : Nat} {V : Int → Prop} {o : Int → ByteArray} (h : Good W w N V o) : Ext W w := by
  obtain ⟨n, f, g, h1, _⟩ := h; exact h1.ext
theorem Good.ok {W w : World} {N : Nat} {V : Int → Prop} {o : Int → ByteArray} (h : Good W w N V o) : w.cell? ⟨W.heap.size + 4, 0, none⟩ = some (.bool true) ∧ w.frozen? ⟨W.heap.size + 4, 0, none⟩ = false ∧ W.heap.size + 5 ≤ w.heap.size := by
  obtain ⟨n, f, g, h1, _⟩ := h; exact ⟨h1.ho, h1.hf, h1.sz⟩
/-- 'ok = true' once more. -/
theorem Good.set {W w : World} {N : Nat} {V : Int → Prop} {o : Int → ByteArray} (h : Good W w N V o) : Good W (w.setCell ⟨W.heap.size + 4, 0, none⟩ (.bool true)) N V o := by
  obtain ⟨n, f, g, ⟨h1, h2, h3, h4, h5, h6, h7, h8⟩, hr⟩ := h
  refine ⟨n, f, g, ⟨h1.setCell (by show W.heap.size ≤ W.heap.size + 4; omega) _, ?_, ?_, World.cell?_setCell_same _ _ _ h4, by simpa using h5, MapF.cell _ h6 (by show W.heap.size ≠ W.heap.size + 4; omega) _, MapF.cell _ h7 (by show W.heap.size + 1 ≠ W.heap.size + 4; omega) _, by simpa using h8⟩, hr⟩
  · rw [World.cell?_setCell_other _ _ _ _ (by intro h; have := congrArg Addr.block h; simp at this)]; exact h2
  · rw [World.cell?_setCell_other _ _ _ _ (by intro h; have := congrArg Addr.block h; simp at this)]; exact h3

theorem nm_ne (p c : Nat) : (nm p c).toList.isEmpty = false ∧ (nm p c).size ≤ 16 := ⟨by simp [nm], by simp [nm, ByteArray.size]⟩

theorem name_good (T C B : Nat) (p7 : Nat) (W w : World) (hs : Szs W) (l0 : W.cell? ⟨p7, 0, none⟩ = some (.int .i64 (T : Int))) (l1 : W.cell? ⟨p7, 1, none⟩ = some (.int .i64 (C : Int))) (l2 : W.cell? ⟨p7, 2, none⟩ = some (.int .i64 (B : Int)))
    (at' : Int) (who : ByteArray) (N : Nat) (V : Int → Prop) (o : Int → ByteArray) (hg : Good W w N V o) (hN : N ≤ 100000) (h0 : 0 ≤ at') (h1 : at' < sizeN T C B) (hb : sizeN T C B ≤ 4096) (h2 : ¬ V at') (h3 : o (at' / 8) = who)
    (hw : who.toList.isEmpty = false) (hw2 : who.size ≤ 16) :
    Calls Tryd.prog 25 #[.int .i64 at', .string who, .pointer (some ⟨p7, 0, none⟩), .pointer (some ⟨W.heap.size + 2, 0, none⟩), .pointer (some ⟨W.heap.size + 3, 0, none⟩), .pointer (some ⟨W.heap.size + 4, 0, none⟩)] w
      fun e w' => e = .returned (.tuple #[]) ∧ Good W w' (N + 2) (fun a => a = at' ∨ V a) o := by
  obtain ⟨n, f, g, q1, q2, q3, q4⟩ := hg
  have hf : f at' = false := by
    cases h : f at'
    · rfl
    · exact absurd (q3 _ h) h2
  refine (name_any T C B p7 W w hs l0 l1 l2 at' who n f g q1 (by omega) h0 h1 hb hf (by rw [← h3]; exact q4 _) hw hw2).mono fun e w' ⟨he, hst⟩ => ⟨he, n + 2, _, _, hst, by omega, fun a ha => ?_, fun l => ?_⟩
  · by_cases h : a = at'
    · exact .inl h
    · unfold updB at ha; rw [if_neg h] at ha; exact .inr (q3 a ha)
  · by_cases h : l = at' / 8
    · unfold updS; rw [if_pos h, h, h3]; exact .inr rfl
    · unfold updS; rw [if_neg h]; exact q4 l

end Go.Proofs.YtoaghifcgjpijaaDoor
