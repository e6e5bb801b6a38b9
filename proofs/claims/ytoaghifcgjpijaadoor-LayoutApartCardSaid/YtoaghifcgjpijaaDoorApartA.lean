/- The closure of the statement LayoutApart: a location is named. -/
import Derived.Test.YtoaghifcgjpijaaDoorLayJ
import Derived.Test.YtoaghifcgjpijaaDoorLayQ
import Derived.Test.YtoaghifcgjpijaaDoorMapZ
import Derived.Test.YtoaghifcgjpijaaDoorHeld
namespace Go.Proofs.YtoaghifcgjpijaaDoor
open Go.RowKit

theorem u8_bd {x : Int} (h : (Lit.int .u8 x).wf = true) : 0 ≤ x ∧ x ≤ 255 := by
  have h1 : IntKind.u8.min = 0 := rfl
  have h2 : IntKind.u8.max = 255 := rfl
  simp only [Lit.wf, Bool.and_eq_true, decide_eq_true_eq] at h
  omega
theorem Tryd.zeroBool (w : World) : (zeroValue 4).run Tryd.prog w = .ok (.bool false) w := by kernel_rfl
theorem Tryd.zeroStr (w : World) : (zeroValue 9).run Tryd.prog w = .ok (.string ByteArray.empty) w := by kernel_rfl

/-- A name of two bytes. -/
def nm (p c : Nat) : ByteArray := ⟨[UInt8.ofNat p, UInt8.ofNat c].toArray⟩
theorem conv_run (w : World) (b p c : Nat) (hp : p < 256) (hc : c < 256) (h0 : w.cell? ⟨b, 0, none⟩ = some (.int .u8 (p : Int))) (h1 : w.cell? ⟨b, 1, none⟩ = some (.int .u8 (c : Int))) :
    (convert 45 9 (.slice (some ⟨b, 0, none⟩) 2 2)).run Tryd.prog w = .ok (.string (nm p c)) w := by
  refine run_convert_bytes_back w _ _ 5 ⟨b, 0, none⟩ 2 [UInt8.ofNat p, UInt8.ofNat c] Tryd.underlying45 Tryd.underlying5 Tryd.underlying9 ?_
  intro j hj
  have hadd : ∀ k, (⟨b, 0, none⟩ : Addr).add k = ⟨b, k, none⟩ := by intro k; unfold Addr.add; split <;> simp_all
  rw [hadd]
  match j, hj with
  | 0, _ => rw [h0]; simp [Nat.mod_eq_of_lt hp]
  | 1, _ => rw [h1]; simp [Nat.mod_eq_of_lt hc]

/-- The state that the closure keeps: the maps of what is named, and of whose a line is; all is well so far. -/
structure St (W w : World) (n : Nat) (f : Int → Bool) (g : Int → ByteArray) : Prop where
  ext : Ext W w
  hm : w.cell? ⟨W.heap.size + 2, 0, none⟩ = some (.map (some W.heap.size))
  hl : w.cell? ⟨W.heap.size + 3, 0, none⟩ = some (.map (some (W.heap.size + 1)))
  ho : w.cell? ⟨W.heap.size + 4, 0, none⟩ = some (.bool true)
  hf : w.frozen? ⟨W.heap.size + 4, 0, none⟩ = false
  m : MapF (elBool Tryd.prog 4 Tryd.underlying4 Tryd.zeroBool) 32 w W.heap.size n f
  l : MapF (elStr Tryd.prog 9 Tryd.underlying9 Tryd.zeroStr) 3 w (W.heap.size + 1) n g
  sz : W.heap.size + 5 ≤ w.heap.size

theorem St.ofx {W w w' : World} {n : Nat} {f : Int → Bool} {g : Int → ByteArray} (h : St W w n f g) (he : Ext w w') : St W w' n f g := by
  obtain ⟨h1, h2, h3, h4, h5, h6, h7, h8⟩ := h
  refine ⟨h1.trans he, he.cell h2, he.cell h3, he.cell h4, ?_, MapF.of _ h6 he, MapF.of _ h7 he, Nat.le_trans h8 he.size⟩
  obtain ⟨r, rfl⟩ := he
  rw [frozen?_ext w r _ _ (by omega)]; exact h5
theorem grown_cell {w w' : World} {b : Nat} (hg : w.grownBy w' (some b)) {k o : Nat} (hk : k < w.heap.size) (hne : k ≠ b) : w'.cell? ⟨k, o, none⟩ = w.cell? ⟨k, o, none⟩ ∧ w'.frozen? ⟨k, o, none⟩ = w.frozen? ⟨k, o, none⟩ := by
  have := hg.block k hk (by intro h; exact hne (Option.some.inj h))
  exact ⟨World.cell?_of_block this, World.frozen?_of_block this⟩
theorem St.putM {W w w' : World} {n : Nat} {f f' : Int → Bool} {g : Int → ByteArray} (h : St W w n f g) (he : Ext W w') (hg : w.grownBy w' (some W.heap.size)) (hm : MapF (elBool Tryd.prog 4 Tryd.underlying4 Tryd.zeroBool) 32 w' W.heap.size (n + 1) f') : St W w' (n + 1) f' g := by
  obtain ⟨h1, h2, h3, h4, h5, h6, h7, h8⟩ := h
  have h7' := MapF.kept _ h7 hg (by simp)
  obtain ⟨D, a, b⟩ := h7'
  exact ⟨he, (grown_cell hg (by omega) (by omega)).1.trans h2, (grown_cell hg (by omega) (by omega)).1.trans h3, (grown_cell hg (by omega) (by omega)).1.trans h4, (grown_cell hg (by omega) (by omega)).2.trans h5, hm, ⟨D, a.mono (by omega), b⟩, Nat.le_trans h8 hg.size⟩
theorem St.putL {W w w' : World} {n : Nat} {f : Int → Bool} {g g' : Int → ByteArray} (h : St W w n f g) (he : Ext W w') (hg : w.grownBy w' (some (W.heap.size + 1))) (hm : MapF (elStr Tryd.prog 9 Tryd.underlying9 Tryd.zeroStr) 3 w' (W.heap.size + 1) (n + 1) g') : St W w' (n + 1) f g' := by
  obtain ⟨h1, h2, h3, h4, h5, h6, h7, h8⟩ := h
  have h6' := MapF.kept _ h6 hg (by simp)
  obtain ⟨D, a, b⟩ := h6'
  exact ⟨he, (grown_cell hg (by omega) (by omega)).1.trans h2, (grown_cell hg (by omega) (by omega)).1.trans h3, (grown_cell hg (by omega) (by omega)).1.trans h4, (grown_cell hg (by omega) (by omega)).2.trans h5, ⟨D, a.mono (by omega), b⟩, hm, Nat.le_trans h8 hg.size⟩

def updB (f : Int → Bool) (a : Int) : Int → Bool := fun y => if y = a then true else f y
def updS (g : Int → ByteArray) (a : Int) (s : ByteArray) : Int → ByteArray := fun y => if y = a then s else g y

set_option maxHeartbeats 1000000 in
theorem name_any (T C B : Nat) (p7 : Nat) (W w : World) (hs : Szs W) (l0 : W.cell? ⟨p7, 0, none⟩ = some (.int .i64 (T : Int))) (l1 : W.cell? ⟨p7, 1, none⟩ = some (.int .i64 (C : Int))) (l2 : W.cell? ⟨p7, 2, none⟩ = some (.int .i64 (B : Int)))
    (at' : Int) (who : ByteArray) (n : Nat) (f : Int → Bool) (g : Int → ByteArray) (hst : St W w n f g) (hn : n ≤ 100000) (h0 : 0 ≤ at') (h1 : at' < sizeN T C B) (hb : sizeN T C B ≤ 4096) (h2 : f at' = false) (h3 : g (at' / 8) = ByteArray.empty ∨ g (at' / 8) = who)
    (hw : who.toList.isEmpty = false) (hw2 : who.size ≤ 16) :
    Calls Tryd.prog 25 #[.int .i64 at', .string who, .pointer (some ⟨p7, 0, none⟩), .pointer (some ⟨W.heap.size + 2, 0, none⟩), .pointer (some ⟨W.heap.size + 3, 0, none⟩), .pointer (some ⟨W.heap.size + 4, 0, none⟩)] w
      fun e w' => e = .returned (.tuple #[]) ∧ St W w' (n + 2) (updB f at') (updS g (at' / 8) who) := by
  have HST := hid hst
  have HS := hid hs
  have c0 := hst.ext.cell l0
  have c1 := hst.ext.cell l1
  have c2 := hst.ext.cell l2
  have c3 := hst.hm
  have c4 := hst.hl
  have c5 := hst.ho
  have z2 : W.heap.size + 2 < w.heap.size := by have := hst.sz; omega
  have z3 : W.heap.size + 3 < w.heap.size := by have := hst.sz; omega
  have z4 : W.heap.size + 4 < w.heap.size := by have := hst.sz; omega
  have HSZ := hid (Szs.of hs hst.ext)
  have hge : ¬ sizeN T C B ≤ at' := by omega
  obtain ⟨z, hz⟩ : ∃ z, z = sizeN T C B := ⟨_, rfl⟩
  have HZ := hid hz
  have HWF := hid (show (Lit.int .i64 at').wf = true from WalkArith.wf_i64 (by omega))
  have HWG := hid (show (Lit.int .i64 (at' / 8)).wf = true from WalkArith.wf_i64 (by omega))
  rw [← hz] at hge
  have hd0 : decide (at' < 0) = false := decide_eq_false (by omega)
  have hd1 : decide (z ≤ at') = false := decide_eq_false hge
  have F2 := hid h2
  have G3 := hid h3
  have hb4 : at' ≤ 4096 := by omega
  have hq : IntKind.i64.wrap (at'.tdiv 8) = at' / 8 := by rw [Int.tdiv_eq_ediv_of_nonneg h0]; exact IntWalk.i64_in _ (by omega)
  clear hst hs l0 l1 l2 hz h2 h3 h1 hb
  go_enter Tryd.func25, Tryd.ntmps25
  go_wp2_with fail
  go_call (size_any T C B _ HSZ.out) as e w' ⟨rfl, r, rfl⟩
  rw [← HZ.out]
  have hem : ByteArray.empty.toList.isEmpty = true := by simp
  rcases G3.out with hs | hs
  · have HG := hid hs
    clear hs
    go_wp2_with (first | (at_lookup; refine map_get_as (elBool Tryd.prog 4 Tryd.underlying4 Tryd.zeroBool) Tryd.underlying32 Tryd.underlying42 rfl _ _ rfl rfl (MapF.ext _ HST.out.m _) at' HWF.out rfl (.bool false) (congrArg Value.bool F2.out) ?_) | (at_lookup; refine map_get_as (elStr Tryd.prog 9 Tryd.underlying9 Tryd.zeroStr) Tryd.underlying3 Tryd.underlying43 rfl _ _ rfl rfl (MapF.ext _ HST.out.l _) (at' / 8) HWG.out rfl (.string ByteArray.empty) (congrArg Value.string HG.out) ?_) | (at_mapUpdate; refine map_put (elBool Tryd.prog 4 Tryd.underlying4 Tryd.zeroBool) Tryd.underlying32 Tryd.underlying42 rfl _ _ _ rfl W (HST.out.ext.trans (by (show Ext _ _; repeat (first | with_reducible exact Ext.refl _ | with_reducible refine Ext.ext ?_ _ | with_reducible refine Ext.alloc ?_ _ | refine Ext.drew ?_ | refine Ext.drewN ?_ _ | exact Ext.refl _)))) (Nat.le_refl _) rfl (MapF.ext _ HST.out.m _) (by omega) at' HWF.out true trivial rfl rfl ?_; intro w1 hE1 hM1 hG1; have HS1 := hid ((St.ofx HST.out (by (show Ext _ _; repeat (first | with_reducible exact Ext.refl _ | with_reducible refine Ext.ext ?_ _ | with_reducible refine Ext.alloc ?_ _ | refine Ext.drew ?_ | refine Ext.drewN ?_ _ | exact Ext.refl _)))).putM hE1 hG1 hM1); have d4 := HS1.out.hl) | (at_mapUpdate; refine map_put (elStr Tryd.prog 9 Tryd.underlying9 Tryd.zeroStr) Tryd.underlying3 Tryd.underlying43 rfl _ _ _ rfl W hE1 (Nat.le_succ _) rfl HS1.out.l (by omega) (at' / 8) HWG.out who (by show who.size ≤ maxLen; unfold maxLen; omega) rfl rfl ?_; intro w2 hE2 hM2 hG2))
    go_end0
    exact ⟨rfl, HS1.out.putL hE2 hG2 hM2⟩
  · have HG := hid hs
    clear hs
    go_wp2_with (first | (at_lookup; refine map_get_as (elBool Tryd.prog 4 Tryd.underlying4 Tryd.zeroBool) Tryd.underlying32 Tryd.underlying42 rfl _ _ rfl rfl (MapF.ext _ HST.out.m _) at' HWF.out rfl (.bool false) (congrArg Value.bool F2.out) ?_) | (at_lookup; refine map_get_as (elStr Tryd.prog 9 Tryd.underlying9 Tryd.zeroStr) Tryd.underlying3 Tryd.underlying43 rfl _ _ rfl rfl (MapF.ext _ HST.out.l _) (at' / 8) HWG.out rfl (.string who) (congrArg Value.string HG.out) ?_) | (at_mapUpdate; refine map_put (elBool Tryd.prog 4 Tryd.underlying4 Tryd.zeroBool) Tryd.underlying32 Tryd.underlying42 rfl _ _ _ rfl W (HST.out.ext.trans (by (show Ext _ _; repeat (first | with_reducible exact Ext.refl _ | with_reducible refine Ext.ext ?_ _ | with_reducible refine Ext.alloc ?_ _ | refine Ext.drew ?_ | refine Ext.drewN ?_ _ | exact Ext.refl _)))) (Nat.le_refl _) rfl (MapF.ext _ HST.out.m _) (by omega) at' HWF.out true trivial rfl rfl ?_; intro w1 hE1 hM1 hG1; have HS1 := hid ((St.ofx HST.out (by (show Ext _ _; repeat (first | with_reducible exact Ext.refl _ | with_reducible refine Ext.ext ?_ _ | with_reducible refine Ext.alloc ?_ _ | refine Ext.drew ?_ | refine Ext.drewN ?_ _ | exact Ext.refl _)))).putM hE1 hG1 hM1); have d4 := HS1.out.hl) | (at_mapUpdate; refine map_put (elStr Tryd.prog 9 Tryd.underlying9 Tryd.zeroStr) Tryd.underlying3 Tryd.underlying43 rfl _ _ _ rfl W hE1 (Nat.le_succ _) rfl HS1.out.l (by omega) (at' / 8) HWG.out who (by show who.size ≤ maxLen; unfold maxLen; omega) rfl rfl ?_; intro w2 hE2 hM2 hG2))
    go_end0
    exact ⟨rfl, HS1.out.putL hE2 hG2 hM2⟩

end Go.Proofs.YtoaghifcgjpijaaDoor
