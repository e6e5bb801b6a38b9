/- The memory: Look and Swap as the machine calls them. -/
import Derived.Test.YtiacdohaiidehaaGreatDoorPk07
namespace Go.Proofs.YtiacdohaiidehaaGreatDoor
set_option linter.unusedSimpArgs false
set_option linter.unusedVariables false
open Go.RowKit Go.Maps
def meSwaps (m : Me) (ti at_ : Nat) (f g : Int → Nat) (l : List Mg) (y : Wd) (t : Int) : Me :=
 meAdds (meFinds m ti at_ (l.length - 1) true f g) ti at_ (vJoin (vWith f at_ (l.length - 1)) g) l y t true
set_option maxRecDepth 100000 in
set_option maxHeartbeats 1000000 in
theorem mLook_any {w : World} {P : Nat → Prop} (hP : ∀ b, P b → b < w.heap.size) {pa va : Option Addr} {pn pc vn vc : Nat} {m : Me} (h : MeR w P (.slice pa pn pc) (.slice va vn vc) m) (t ti : Nat) (ht : t = ti + 1) (f : Int → Nat) (hf : m.vs[ti]? = some f) (hvn : vn ≤ 1000) (hpn : pn ≤ 5000)
 (at_ : Nat) (l : List Mg) (hl : m.pl[at_]? = some l) (x1 x2 x3 x4 : Int) (g : Int → Nat) (hm : l[l.length - 1]? = some ⟨(x1, x2, x3), x4, g⟩) (hi : l.length ≤ 1000000) :
 Calls Tryz.prog 131 #[.agg #[.slice pa pn pc, .slice va vn vc], .int .i64 t, .int .i64 at_] w fun e w' => ∃ va' vc', e = .returned (.tuple #[.agg #[.slice pa pn pc, .slice va' vn vc'], .agg #[.int .i64 x1, .int .u32 x2, .int .u32 x3], .int .i64 0]) ∧ Ext w w' ∧ MeR w' (fun b => P b ∨ NewB memD w w' b) (.slice pa pn pc) (.slice va' vn vc') (meFinds m ti at_ (l.length - 1) true f g) := by
 have H := hid h
 have HP := hid hP
 have HF := hid hf
 have HM := hid hm
 have HT := hid ht
 have HI := hid hi
 have HVn := hid hvn
 have HPn := hid hpn
 have HLl := hid hl
 clear h hP hf hm ht hi hvn hpn hl
 go_enter Tryz.func131, Tryz.ntmps131
 go_wp2_with fail
 generalize hV : World.alloc _ _ = V
 have HEV := hid (show Ext w V by rw [← hV]; exact exP)
 have HB6 := hid (show Blk V (w.heap.size + 1) [.slice none 0 0, .slice none 0 0] by rw [← hV]; exact bkP)
 have HB7 := hid (show Blk V (w.heap.size + 1 + 1) [.int .i64 0, .int .u32 0, .int .u32 0] by rw [← hV]; exact bkP)
 obtain ⟨g0, hg0⟩ : ∃ g, g = w.heap.size := ⟨_, rfl⟩
 have HGw := hid (show w.heap.size = g0 from hg0.symm)
 rw [← hg0] at HB6 HB7 ⊢
 clear hV hg0
 refine (mlook_any (P := P) (fun b h => Nat.lt_of_lt_of_le (HP.out b h) HEV.out.size) (H.out.of HEV.out) t ti HT.out f HF.out HVn.out HPn.out at_ l HLl.out x1 x2 x3 x4 g HM.out HI.out).mono ?_
 rintro e w2 ⟨va', vc', rfl, he, hm⟩
 have HX := hid he
 have HMe := hid hm
 have h6 := HB6.out.of he
 have h7 := HB7.out.of he
 clear he hm
 have b0 := h6.2.2 0 _ rfl
 have b1 := h6.2.2 1 _ rfl
 have bf := h6.2.1
 have bg := h6.1
 have c0 := h7.2.2 0 _ rfl
 have c1 := h7.2.2 1 _ rfl
 have c2 := h7.2.2 2 _ rfl
 have cf := h7.2.1
 have cg := h7.1
 clear h6 h7
 have hgw := HGw.out
 have hb6 := HB6.out.1
 have hb7 := HB7.out.1
 have hn1 := hid (show ¬ (P (g0 + 1) ∨ NewB memD V w2 (g0 + 1)) from fun h => by
  rcases h with h | h
  ·have := HP.out _ h; omega
  ·have h1 := h.1; omega)
 have hn2 := hid (show ¬ (P (g0 + 1 + 1) ∨ NewB memD V w2 (g0 + 1 + 1)) from fun h => by
  rcases h with h | h
  ·have := HP.out _ h; omega
  ·have h1 := h.1; omega)
 clear hgw hb6 hb7
 (repeat (first | go_values | go_skip | go_guarded | go_step | go_upon | (simp only [Int.not_lt, Int.not_le] at *; go_simp) | (go_ite <;> go_prune <;> (try go_simp))))
 have hgw := HGw.out
 refine bodyPost_ret (v := .tuple #[.agg #[.slice pa pn pc, .slice va' vn vc'], .agg #[.int .i64 x1, .int .u32 x2, .int .u32 x3], .int .i64 0]) (by simp [results, Tryz.results131, go_sem, b0, b1, bf, bg, c0, c1, c2, cf, cg]) rfl ⟨va', vc', rfl, ?_, ?_⟩
 ·have HEw := hid (HEV.out.trans HX.out)
  exact exF
 ·refine (MeR.kp HMe.out (((((KpB.refl.setCell hn1.out _).setCell hn1.out _).setCell hn2.out _).setCell hn2.out _).setCell hn2.out _)).imp (fun n h => h.imp id (fun h => h.to HEV.out.size (by exact tyP)))
set_option maxRecDepth 100000 in
set_option maxHeartbeats 1000000 in
theorem mSwap_hit {w : World} {P : Nat → Prop} (hP : ∀ b, P b → b < w.heap.size) {pa va : Option Addr} {pn pc vn vc : Nat} {m : Me} (h : MeR w P (.slice pa pn pc) (.slice va vn vc) m) (t ti : Nat) (ht : t = ti + 1) (f : Int → Nat) (hf : m.vs[ti]? = some f) (hvn : vn ≤ 1000) (hpn : pn ≤ 5000)
 (at_ : Nat) (l : List Mg) (hl : m.pl[at_]? = some l) (x1 x2 x3 x4 : Int) (g : Int → Nat) (hm : l[l.length - 1]? = some ⟨(x1, x2, x3), x4, g⟩) (hi : l.length ≤ 900000) (y1 y2 y3 : Int) :
 Calls Tryz.prog 123 #[.agg #[.slice pa pn pc, .slice va vn vc], .int .i64 t, .int .i64 at_, .agg #[.int .i64 x1, .int .u32 x2, .int .u32 x3], .agg #[.int .i64 y1, .int .u32 y2, .int .u32 y3]] w fun e w' => ∃ pa' pc' va' vc', e = .returned (.tuple #[.agg #[.slice pa' pn pc', .slice va' vn vc'], .agg #[.int .i64 x1, .int .u32 x2, .int .u32 x3], .bool true, .int .i64 0]) ∧ Ext w w' ∧ MeR w' (fun b => P b ∨ NewB memD w w' b) (.slice pa' pn pc') (.slice va' vn vc') (meSwaps m ti at_ f g l (y1, y2, y3) t) := by
 have H := hid h
 have HP := hid hP
 have HF := hid hf
 have HM := hid hm
 have HT := hid ht
 have HI := hid hi
 have HVn := hid hvn
 have HPn := hid hpn
 have HLl := hid hl
 clear h hP hf hm ht hi hvn hpn hl
 go_enter Tryz.func123, Tryz.ntmps123
 go_wp2_with fail
 generalize hV : World.alloc _ _ = V
 have HEV := hid (show Ext w V by rw [← hV]; exact exP)
 have HB5 := hid (show Blk V w.heap.size [.slice pa pn pc, .slice va vn vc] by rw [← hV]; exact bkP)
 have HB8 := hid (show Blk V (w.heap.size + 1) [.int .i64 x1, .int .u32 x2, .int .u32 x3] by rw [← hV]; exact bkP)
 have HB9 := hid (show Blk V (w.heap.size + 1 + 1) [.int .i64 y1, .int .u32 y2, .int .u32 y3] by rw [← hV]; exact bkP)
 have HB10 := hid (show Blk V (w.heap.size + 1 + 1 + 1) [.slice none 0 0, .slice none 0 0] by rw [← hV]; exact bkP)
 have HB11 := hid (show Blk V (w.heap.size + 1 + 1 + 1 + 1) [.int .i64 0, .int .u32 0, .int .u32 0] by rw [← hV]; exact bkP)
 obtain ⟨g0, hg0⟩ : ∃ g, g = w.heap.size := ⟨_, rfl⟩
 have HGw := hid (show w.heap.size = g0 from hg0.symm)
 rw [← hg0] at HB5 HB8 HB9 HB10 HB11 ⊢
 obtain ⟨gB, hgB⟩ : ∃ g, g = g0 + 1 + 1 + 1 + 1 := ⟨_, rfl⟩
 rw [← hgB] at HB11 ⊢
 obtain ⟨gA, hgA⟩ : ∃ g, g = g0 + 1 + 1 + 1 := ⟨_, rfl⟩
 rw [← hgA] at HB10 ⊢
 obtain ⟨g9, hg9⟩ : ∃ g, g = g0 + 1 + 1 := ⟨_, rfl⟩
 rw [← hg9] at HB9 ⊢
 obtain ⟨g8, hg8⟩ : ∃ g, g = g0 + 1 := ⟨_, rfl⟩
 rw [← hg8] at HB8 ⊢
 have HGn := hid (show g8 = g0 + 1 ∧ g9 = g0 + 1 + 1 ∧ gA = g0 + 1 + 1 + 1 ∧ gB = g0 + 1 + 1 + 1 + 1 from ⟨hg8, hg9, hgA, hgB⟩)
 clear hV hg0 hgB hgA hg9 hg8
 refine (mLook_any (P := P) (fun b h => Nat.lt_of_lt_of_le (HP.out b h) HEV.out.size) (H.out.of HEV.out) t ti HT.out f HF.out HVn.out HPn.out at_ l HLl.out x1 x2 x3 x4 g HM.out (by have := HI.out; omega)).mono ?_
 rintro e w2 ⟨va', vc', rfl, he, hm⟩
 have HX := hid he
 have HMe := hid hm
 have h8 := HB8.out.of he
 clear he hm
 have b0 := h8.2.2 0 _ rfl
 have b1 := h8.2.2 1 _ rfl
 have b2 := h8.2.2 2 _ rfl
 have bg := h8.1
 clear h8
 go_upto_region 4 with fail
 generalize hW : World.alloc _ _ = W
 have HEW := hid (show Ext w2 W by rw [← hW]; exact exP)
 have HBE := hid (show Blk W w2.heap.size [.slice pa pn pc, .slice va' vn vc'] by rw [← hW]; exact bkP)
 have HBF := hid (show Blk W (w2.heap.size + 1) [.int .i64 x1, .int .u32 x2, .int .u32 x3] by rw [← hW]; exact bkP)
 obtain ⟨gF, hgF⟩ : ∃ g, g = w2.heap.size + 1 := ⟨_, rfl⟩
 rw [← hgF] at HBF ⊢
 obtain ⟨gE, hgE⟩ : ∃ g, g = w2.heap.size := ⟨_, rfl⟩
 rw [← hgE] at HBE ⊢
 have HGE := hid (show V.heap.size ≤ gE ∧ V.heap.size ≤ gF by have := HX.out.size; omega)
 clear hW hgF hgE b0 b1 b2 bg
 have HVW := hid (HX.out.trans HEW.out)
 have h9 := HB9.out.of HVW.out
 have a0 := HBE.out.2.2 0 _ rfl
 have a1 := HBE.out.2.2 1 _ rfl
 have ag := HBE.out.1
 have b0 := h9.2.2 0 _ rfl
 have b1 := h9.2.2 1 _ rfl
 have b2 := h9.2.2 2 _ rfl
 have bg := h9.1
 have c0 := HBF.out.2.2 0 _ rfl
 have c1 := HBF.out.2.2 1 _ rfl
 have c2 := HBF.out.2.2 2 _ rfl
 have cg := HBF.out.1
 clear h9
 have HP2 := hid (show ∀ b, (P b ∨ NewB memD V w2 b) → b < w2.heap.size from fun b h => h.elim (fun h => Nat.lt_of_lt_of_le (HP.out b h) (HEV.out.trans HX.out).size) (fun h => by obtain ⟨_, o, h2, _⟩ := h; exact (Array.getElem?_eq_some_iff.1 h2).1))
 have HF2 := hid (show (meFinds m ti at_ (l.length - 1) true f g).vs[ti]? = some (vJoin (vWith f at_ (l.length - 1)) g) from by
  simp only [meFinds, if_true]
  exact List.getElem?_set_self (List.getElem?_eq_some_iff.1 HF.out).1)
 have hgn := HGn.out
 have hwv := HVW.out.size
 have hbB := HB11.out.1
 have hgEF := HGE.out
 have HSt := hid (show ∀ w', Gr2 gA gB W w' → (fun w' => (w'.cell? ⟨gE, 0, none⟩ = some (.slice pa pn pc) ∧ w'.cell? ⟨gE, 1, none⟩ = some (.slice va' vn vc')) ∧ (w'.cell? ⟨g9, 0, none⟩ = some (.int .i64 y1) ∧ w'.cell? ⟨g9, 1, none⟩ = some (.int .u32 y2) ∧ w'.cell? ⟨g9, 2, none⟩ = some (.int .u32 y3)) ∧ (w'.cell? ⟨gF, 0, none⟩ = some (.int .i64 x1) ∧ w'.cell? ⟨gF, 1, none⟩ = some (.int .u32 x2) ∧ w'.cell? ⟨gF, 2, none⟩ = some (.int .u32 x3)) ∧ (gE < w'.heap.size ∧ g9 < w'.heap.size ∧ gF < w'.heap.size)) w' from fun w' G => ⟨⟨G.cell (by omega) (by omega) a0, G.cell (by omega) (by omega) a1⟩, ⟨G.cell (by omega) (by omega) b0, G.cell (by omega) (by omega) b1, G.cell (by omega) (by omega) b2⟩, ⟨G.cell (by omega) (by omega) c0, G.cell (by omega) (by omega) c1, G.cell (by omega) (by omega) c2⟩, Nat.lt_of_lt_of_le ag G.1, Nat.lt_of_lt_of_le bg G.1, Nat.lt_of_lt_of_le cg G.1⟩)
 clear hgn hbB hwv hgEF
 have hA := HB10.out.of HVW.out
 have hB := HB11.out.of HVW.out
 have d0 := hA.2.2 0 _ rfl
 have d1 := hA.2.2 1 _ rfl
 have df := hA.2.1
 have dg := hA.1
 have e0 := hB.2.2 0 _ rfl
 have e1 := hB.2.2 1 _ rfl
 have e2 := hB.2.2 2 _ rfl
 have ef := hB.2.1
 have eg := hB.1
 have hab : ¬ gA = gB := by have := HGn.out; omega
 have hba : ¬ gB = gA := by have := HGn.out; omega
 clear hA hB
 refine wp_region_held_drew (S := fun w' => (w'.cell? ⟨gE, 0, none⟩ = some (.slice pa pn pc) ∧ w'.cell? ⟨gE, 1, none⟩ = some (.slice va' vn vc')) ∧ (w'.cell? ⟨g9, 0, none⟩ = some (.int .i64 y1) ∧ w'.cell? ⟨g9, 1, none⟩ = some (.int .u32 y2) ∧ w'.cell? ⟨g9, 2, none⟩ = some (.int .u32 y3)) ∧ (w'.cell? ⟨gF, 0, none⟩ = some (.int .i64 x1) ∧ w'.cell? ⟨gF, 1, none⟩ = some (.int .u32 x2) ∧ w'.cell? ⟨gF, 2, none⟩ = some (.int .u32 x3)) ∧ (gE < w'.heap.size ∧ g9 < w'.heap.size ∧ gF < w'.heap.size)) (by kernel_rfl) (by exact HSt.out _ (by repeat (first | with_reducible exact Gr2.refl | ((with_reducible refine Gr2.setL ?_ _ _)) | ((with_reducible refine Gr2.setR ?_ _ _)) | ((with_reducible refine Gr2.ext ?_ _)) | ((with_reducible refine Gr2.drew ?_))))) (fun hHeld => ?_)
 refine tkm 0 (v := ?_) rfl ?_ ?_
 rotate_left 1
 ·intro w hSw
  try dsimp only at hSw
  go_simp
  try with_reducible rfl
 (try simp only [Act.put, pA, pB, pC])
 refine tkm 1 (v := ?_) rfl ?_ ?_
 rotate_left 1
 ·intro w hSw
  try dsimp only at hSw
  go_simp
  try with_reducible rfl
 (try simp only [Act.put, pA, pB, pC])
 refine tkm 2 (v := ?_) rfl ?_ ?_
 rotate_left 1
 ·intro w hSw
  try dsimp only at hSw
  go_simp
  try with_reducible rfl
 (try simp only [Act.put, pA, pB, pC])
 refine tkm 3 (v := ?_) rfl ?_ ?_
 rotate_left 1
 ·intro w hSw
  try dsimp only at hSw
  go_simp
  try with_reducible rfl
 (try simp only [Act.put, pA, pB, pC])
 refine tkm 5 (v := ?_) rfl ?_ ?_
 rotate_left 1
 ·intro w hSw
  try dsimp only at hSw
  go_simp
  try with_reducible rfl
 (try simp only [Act.put, pA, pB, pC])
 refine take_only 4 (oi := ⟨_, _, _, _, _, _⟩) (by kernel_rfl) rfl (fun K hK => ?_)
 go_simp
 first
  | (go_at_call 138; refine (madds_any (P := fun b => P b ∨ NewB memD V w2 b) (fun b h => Nat.lt_of_lt_of_le (HP2.out b h) (show Ext w2 _ from HEW.out.trans (by exact exF)).size) (HMe.out.of (show Ext w2 _ from HEW.out.trans (by exact exF))) t ti HT.out _ HF2.out HVn.out HPn.out at_ l HLl.out y1 y2 y3 HI.out true).mono ?_; rintro e w' ⟨p1, p2, q1, q2, rfl, ⟨r', rfl⟩, hm⟩; have HM4 := hid hm; clear hm)
 have hOld := hHeld
 clear hHeld
 refine hK.out _ _ (by exact HSt.out _ (by repeat (first | with_reducible exact Gr2.refl | ((with_reducible refine Gr2.setL ?_ _ _)) | ((with_reducible refine Gr2.setR ?_ _ _)) | ((with_reducible refine Gr2.ext ?_ _)) | ((with_reducible refine Gr2.drew ?_))))) (fun hHeld => ?_)
 clear hOld hK K
 (try simp only [Act.put, pA, pB, pC])
 refine take_only 6 (oi := ⟨_, _, _, _, _, _⟩) (by kernel_rfl) rfl (fun K hK => ?_)
 go_simp
 have hOld := hHeld
 clear hHeld
 refine hK.out _ _ (by exact HSt.out _ (by repeat (first | with_reducible exact Gr2.refl | ((with_reducible refine Gr2.setL ?_ _ _)) | ((with_reducible refine Gr2.setR ?_ _ _)) | ((with_reducible refine Gr2.ext ?_ _)) | ((with_reducible refine Gr2.drew ?_))))) (fun hHeld => ?_)
 clear hOld hK K
 (try simp only [Act.put, pA, pB, pC])
 refine take_only 7 (oi := ⟨_, _, _, _, _, _⟩) (by kernel_rfl) rfl (fun K hK => ?_)
 go_simp
 have hOld := hHeld
 clear hHeld
 refine hK.out _ _ (by exact HSt.out _ (by repeat (first | with_reducible exact Gr2.refl | ((with_reducible refine Gr2.setL ?_ _ _)) | ((with_reducible refine Gr2.setR ?_ _ _)) | ((with_reducible refine Gr2.ext ?_ _)) | ((with_reducible refine Gr2.drew ?_))))) (fun hHeld => ?_)
 clear hOld hK K
 (try simp only [Act.put, pA, pB, pC])
 refine tkm 8 (v := ?_) rfl ?_ ?_
 rotate_left 1
 ·intro w hSw
  try dsimp only at hSw
  go_simp
  try with_reducible rfl
 (try simp only [Act.put, pA, pB, pC])
 refine tkm 9 (v := ?_) rfl ?_ ?_
 rotate_left 1
 ·intro w hSw
  try dsimp only at hSw
  go_simp
  try with_reducible rfl
 (try simp only [Act.put, pA, pB, pC])
 refine wpAnyH_done (by kernel_rfl) ?_ _
 clear hHeld
 have hgn := HGn.out
 have hgw := HGw.out
 have hb10 := HB10.out.1
 have hb11 := HB11.out.1
 have HEw := hid (HEV.out.trans HVW.out)
 have hn : ∀ k, (k = gA ∨ k = gB) → ¬ (((P k ∨ NewB memD V w2 k)) ∨ NewB memD W.drew (ext W.drew r') k) := fun k hk h => by
  have hk1 : w.heap.size ≤ k ∧ k < V.heap.size := by omega
  rcases h with (h | h) | h
  ·have := HP.out _ h; omega
  ·have h1 := h.1; omega
  ·have h1 : W.heap.size ≤ k := h.1
   have := HVW.out.size; omega
 have hnA := hid (hn gA (.inl rfl))
 have hnB := hid (hn gB (.inr rfl))
 have hgeA : w.heap.size ≤ gA := by omega
 have hgeB : w.heap.size ≤ gB := by omega
 clear hn hb10 hb11 hgn hgw
 (repeat (first | go_values | go_skip | go_guarded | go_step | go_upon | (simp only [Int.not_lt, Int.not_le] at *; go_simp) | (go_ite <;> go_prune <;> (try go_simp))))
 refine bodyPost_ret (v := .tuple #[.agg #[.slice p1 pn p2, .slice q1 vn q2], .agg #[.int .i64 x1, .int .u32 x2, .int .u32 x3], .bool true, .int .i64 0]) (by simp [results, Tryz.results123, go_sem, d0, d1, df, dg, e0, e1, e2, ef, eg, hab, hba]) rfl ⟨p1, p2, q1, q2, rfl, by exact exF, ?_⟩
 have hk := MeR.kp (show MeR (ext W r') _ _ _ _ from HM4.out) ((((((KpB.refl).setCell hnA.out (i := 0) (.slice p1 pn p2)).setCell hnA.out (i := 1) (.slice q1 vn q2)).setCell hnB.out (i := 0) (.int .i64 x1)).setCell hnB.out (i := 1) (.int .u32 x2)).setCell hnB.out (i := 2) (.int .u32 x3))
 refine hk.imp (fun n h => ?_)
 rcases h with (h | h) | h
 ·exact .inl h
 ·exact .inr (h.to HEV.out.size ((TyK.of_ext HEW.out).trans (by exact tyP)))
 ·exact .inr ((show NewB memD W.drew (ext W r') n from h).to (show w.heap.size ≤ W.heap.size from HEw.out.size) (by exact tyP))
set_option maxRecDepth 100000 in
set_option maxHeartbeats 1000000 in
theorem mSwap_miss {w : World} {P : Nat → Prop} (hP : ∀ b, P b → b < w.heap.size) {pa va : Option Addr} {pn pc vn vc : Nat} {m : Me} (h : MeR w P (.slice pa pn pc) (.slice va vn vc) m) (t ti : Nat) (ht : t = ti + 1) (f : Int → Nat) (hf : m.vs[ti]? = some f) (hvn : vn ≤ 1000) (hpn : pn ≤ 5000)
 (at_ : Nat) (l : List Mg) (hl : m.pl[at_]? = some l) (x1 x2 x3 x4 : Int) (g : Int → Nat) (hm : l[l.length - 1]? = some ⟨(x1, x2, x3), x4, g⟩) (hi : l.length ≤ 900000) (o1 o2 o3 y1 y2 y3 : Int) (hne : ¬ (x1 = o1 ∧ x2 = o2 ∧ x3 = o3)) :
 Calls Tryz.prog 123 #[.agg #[.slice pa pn pc, .slice va vn vc], .int .i64 t, .int .i64 at_, .agg #[.int .i64 o1, .int .u32 o2, .int .u32 o3], .agg #[.int .i64 y1, .int .u32 y2, .int .u32 y3]] w fun e w' => ∃ va' vc', e = .returned (.tuple #[.agg #[.slice pa pn pc, .slice va' vn vc'], .agg #[.int .i64 x1, .int .u32 x2, .int .u32 x3], .bool false, .int .i64 0]) ∧ Ext w w' ∧ MeR w' (fun b => P b ∨ NewB memD w w' b) (.slice pa pn pc) (.slice va' vn vc') (meFinds m ti at_ (l.length - 1) true f g) := by
 have H := hid h
 have HP := hid hP
 have HF := hid hf
 have HM := hid hm
 have HT := hid ht
 have HI := hid hi
 have HVn := hid hvn
 have HPn := hid hpn
 have HLl := hid hl
 clear h hP hf hm ht hi hvn hpn hl
 have hcs : (¬ x1 = o1) ∨ (x1 = o1 ∧ ¬ x2 = o2) ∨ (x1 = o1 ∧ x2 = o2 ∧ ¬ x3 = o3) := by
  by_cases h1 : x1 = o1
  ·by_cases h2 : x2 = o2
   ·exact .inr (.inr ⟨h1, h2, fun h3 => hne ⟨h1, h2, h3⟩⟩)
   ·exact .inr (.inl ⟨h1, h2⟩)
  ·exact .inl h1
 clear hne
 rcases hcs with hd | ⟨h1, hd⟩ | ⟨h1, h2, hd⟩
 ·have hc1 : (x1 = o1) = False := eq_false hd
  go_enter Tryz.func123, Tryz.ntmps123
  go_wp2_with fail
  generalize hV : World.alloc _ _ = V
  have HEV := hid (show Ext w V by rw [← hV]; exact exP)
  have HB5 := hid (show Blk V w.heap.size [.slice pa pn pc, .slice va vn vc] by rw [← hV]; exact bkP)
  have HB8 := hid (show Blk V (w.heap.size + 1) [.int .i64 o1, .int .u32 o2, .int .u32 o3] by rw [← hV]; exact bkP)
  have HB9 := hid (show Blk V (w.heap.size + 1 + 1) [.int .i64 y1, .int .u32 y2, .int .u32 y3] by rw [← hV]; exact bkP)
  have HB10 := hid (show Blk V (w.heap.size + 1 + 1 + 1) [.slice none 0 0, .slice none 0 0] by rw [← hV]; exact bkP)
  have HB11 := hid (show Blk V (w.heap.size + 1 + 1 + 1 + 1) [.int .i64 0, .int .u32 0, .int .u32 0] by rw [← hV]; exact bkP)
  obtain ⟨g0, hg0⟩ : ∃ g, g = w.heap.size := ⟨_, rfl⟩
  have HGw := hid (show w.heap.size = g0 from hg0.symm)
  rw [← hg0] at HB5 HB8 HB9 HB10 HB11 ⊢
  obtain ⟨gB, hgB⟩ : ∃ g, g = g0 + 1 + 1 + 1 + 1 := ⟨_, rfl⟩
  rw [← hgB] at HB11 ⊢
  obtain ⟨gA, hgA⟩ : ∃ g, g = g0 + 1 + 1 + 1 := ⟨_, rfl⟩
  rw [← hgA] at HB10 ⊢
  obtain ⟨g9, hg9⟩ : ∃ g, g = g0 + 1 + 1 := ⟨_, rfl⟩
  rw [← hg9] at HB9 ⊢
  obtain ⟨g8, hg8⟩ : ∃ g, g = g0 + 1 := ⟨_, rfl⟩
  rw [← hg8] at HB8 ⊢
  have HGn := hid (show g8 = g0 + 1 ∧ g9 = g0 + 1 + 1 ∧ gA = g0 + 1 + 1 + 1 ∧ gB = g0 + 1 + 1 + 1 + 1 from ⟨hg8, hg9, hgA, hgB⟩)
  clear hV hg0 hgB hgA hg9 hg8
  refine (mLook_any (P := P) (fun b h => Nat.lt_of_lt_of_le (HP.out b h) HEV.out.size) (H.out.of HEV.out) t ti HT.out f HF.out HVn.out HPn.out at_ l HLl.out x1 x2 x3 x4 g HM.out (by have := HI.out; omega)).mono ?_
  rintro e w2 ⟨va', vc', rfl, he, hm⟩
  have HX := hid he
  have HMe := hid hm
  have h8 := HB8.out.of he
  clear he hm
  have b0 := h8.2.2 0 _ rfl
  have b1 := h8.2.2 1 _ rfl
  have b2 := h8.2.2 2 _ rfl
  have bg := h8.1
  clear h8
  go_upto_region 3 with fail
  generalize hW : World.alloc _ _ = W
  have HEW := hid (show Ext w2 W by rw [← hW]; exact exP)
  have HBE := hid (show Blk W w2.heap.size [.slice pa pn pc, .slice va' vn vc'] by rw [← hW]; exact bkP)
  have HBF := hid (show Blk W (w2.heap.size + 1) [.int .i64 x1, .int .u32 x2, .int .u32 x3] by rw [← hW]; exact bkP)
  obtain ⟨gF, hgF⟩ : ∃ g, g = w2.heap.size + 1 := ⟨_, rfl⟩
  rw [← hgF] at HBF ⊢
  obtain ⟨gE, hgE⟩ : ∃ g, g = w2.heap.size := ⟨_, rfl⟩
  rw [← hgE] at HBE ⊢
  have HGE := hid (show V.heap.size ≤ gE ∧ V.heap.size ≤ gF by have := HX.out.size; omega)
  clear hW hgF hgE b0 b1 b2 bg hd
  have HVW := hid (HX.out.trans HEW.out)
  have a0 := HBE.out.2.2 0 _ rfl
  have a1 := HBE.out.2.2 1 _ rfl
  have ag := HBE.out.1
  have c0 := HBF.out.2.2 0 _ rfl
  have c1 := HBF.out.2.2 1 _ rfl
  have c2 := HBF.out.2.2 2 _ rfl
  have cg := HBF.out.1
  have hgn := HGn.out
  have hwv := HVW.out.size
  have hbB := HB11.out.1
  have hgEF := HGE.out
  have HSt := hid (show ∀ w', Gr2 gA gB W w' → (fun w' => (w'.cell? ⟨gE, 0, none⟩ = some (.slice pa pn pc) ∧ w'.cell? ⟨gE, 1, none⟩ = some (.slice va' vn vc')) ∧ (w'.cell? ⟨gF, 0, none⟩ = some (.int .i64 x1) ∧ w'.cell? ⟨gF, 1, none⟩ = some (.int .u32 x2) ∧ w'.cell? ⟨gF, 2, none⟩ = some (.int .u32 x3)) ∧ (gE < w'.heap.size ∧ gF < w'.heap.size)) w' from fun w' G => ⟨⟨G.cell (by omega) (by omega) a0, G.cell (by omega) (by omega) a1⟩, ⟨G.cell (by omega) (by omega) c0, G.cell (by omega) (by omega) c1, G.cell (by omega) (by omega) c2⟩, Nat.lt_of_lt_of_le ag G.1, Nat.lt_of_lt_of_le cg G.1⟩)
  clear hgn hbB hwv hgEF
  have hA := HB10.out.of HVW.out
  have hB := HB11.out.of HVW.out
  have d0 := hA.2.2 0 _ rfl
  have d1 := hA.2.2 1 _ rfl
  have df := hA.2.1
  have dg := hA.1
  have e0 := hB.2.2 0 _ rfl
  have e1 := hB.2.2 1 _ rfl
  have e2 := hB.2.2 2 _ rfl
  have ef := hB.2.1
  have eg := hB.1
  have hab : ¬ gA = gB := by have := HGn.out; omega
  have hba : ¬ gB = gA := by have := HGn.out; omega
  clear hA hB
  refine wp_region_held_drew (S := fun w' => (w'.cell? ⟨gE, 0, none⟩ = some (.slice pa pn pc) ∧ w'.cell? ⟨gE, 1, none⟩ = some (.slice va' vn vc')) ∧ (w'.cell? ⟨gF, 0, none⟩ = some (.int .i64 x1) ∧ w'.cell? ⟨gF, 1, none⟩ = some (.int .u32 x2) ∧ w'.cell? ⟨gF, 2, none⟩ = some (.int .u32 x3)) ∧ (gE < w'.heap.size ∧ gF < w'.heap.size)) (by kernel_rfl) (by exact HSt.out _ (by repeat (first | with_reducible exact Gr2.refl | ((with_reducible refine Gr2.setL ?_ _ _)) | ((with_reducible refine Gr2.setR ?_ _ _)) | ((with_reducible refine Gr2.ext ?_ _)) | ((with_reducible refine Gr2.drew ?_))))) (fun hHeld => ?_)
  refine tkm 0 (v := ?_) rfl ?_ ?_
  rotate_left 1
  ·intro w hSw
   try dsimp only at hSw
   go_simp
   try with_reducible rfl
  (try simp only [Act.put, pA, pB, pC])
  refine tkm 1 (v := ?_) rfl ?_ ?_
  rotate_left 1
  ·intro w hSw
   try dsimp only at hSw
   go_simp
   try with_reducible rfl
  (try simp only [Act.put, pA, pB, pC])
  refine tkm 2 (v := ?_) rfl ?_ ?_
  rotate_left 1
  ·intro w hSw
   try dsimp only at hSw
   go_simp
   try with_reducible rfl
  (try simp only [Act.put, pA, pB, pC])
  refine take_only 3 (oi := ⟨_, _, _, _, _, _⟩) (by kernel_rfl) rfl (fun K hK => ?_)
  go_simp
  have hOld := hHeld
  clear hHeld
  refine hK.out _ _ (by exact HSt.out _ (by repeat (first | with_reducible exact Gr2.refl | ((with_reducible refine Gr2.setL ?_ _ _)) | ((with_reducible refine Gr2.setR ?_ _ _)) | ((with_reducible refine Gr2.ext ?_ _)) | ((with_reducible refine Gr2.drew ?_))))) (fun hHeld => ?_)
  clear hOld hK K
  (try simp only [Act.put, pA, pB, pC])
  refine take_only 4 (oi := ⟨_, _, _, _, _, _⟩) (by kernel_rfl) rfl (fun K hK => ?_)
  go_simp
  have hOld := hHeld
  clear hHeld
  refine hK.out _ _ (by exact HSt.out _ (by repeat (first | with_reducible exact Gr2.refl | ((with_reducible refine Gr2.setL ?_ _ _)) | ((with_reducible refine Gr2.setR ?_ _ _)) | ((with_reducible refine Gr2.ext ?_ _)) | ((with_reducible refine Gr2.drew ?_))))) (fun hHeld => ?_)
  clear hOld hK K
  (try simp only [Act.put, pA, pB, pC])
  refine tkm 5 (v := ?_) rfl ?_ ?_
  rotate_left 1
  ·intro w hSw
   try dsimp only at hSw
   go_simp
   try with_reducible rfl
  (try simp only [Act.put, pA, pB, pC])
  refine tkm 6 (v := ?_) rfl ?_ ?_
  rotate_left 1
  ·intro w hSw
   try dsimp only at hSw
   go_simp
   try with_reducible rfl
  (try simp only [Act.put, pA, pB, pC])
  refine wpAnyH_done (by kernel_rfl) ?_ _
  clear hHeld
  have hgn := HGn.out
  have hgw := HGw.out
  have hb10 := HB10.out.1
  have hb11 := HB11.out.1
  have HEw := hid (HEV.out.trans HVW.out)
  have hn : ∀ k, (k = gA ∨ k = gB) → ¬ (P k ∨ NewB memD V w2 k) := fun k hk h => by
   have hk1 : w.heap.size ≤ k ∧ k < V.heap.size := by omega
   rcases h with h | h
   ·have := HP.out _ h; omega
   ·have h1 := h.1; omega
  have hnA := hid (hn gA (.inl rfl))
  have hnB := hid (hn gB (.inr rfl))
  have hgeA : w.heap.size ≤ gA := by omega
  have hgeB : w.heap.size ≤ gB := by omega
  clear hn hb10 hb11 hgn hgw
  (repeat (first | go_values | go_skip | go_guarded | go_step | go_upon | (simp only [Int.not_lt, Int.not_le] at *; go_simp) | (go_ite <;> go_prune <;> (try go_simp))))
  refine bodyPost_ret (v := .tuple #[.agg #[.slice pa pn pc, .slice va' vn vc'], .agg #[.int .i64 x1, .int .u32 x2, .int .u32 x3], .bool false, .int .i64 0]) (by simp [results, Tryz.results123, go_sem, d0, d1, df, dg, e0, e1, e2, ef, eg, hab, hba]) rfl ⟨va', vc', rfl, by exact exF, ?_⟩
  have hk := MeR.kp (HMe.out.of HEW.out) ((((((KpB.refl).setCell hnA.out (i := 0) (.slice pa pn pc)).setCell hnA.out (i := 1) (.slice va' vn vc')).setCell hnB.out (i := 0) (.int .i64 x1)).setCell hnB.out (i := 1) (.int .u32 x2)).setCell hnB.out (i := 2) (.int .u32 x3))
  exact MeR.kp hk KpB.refl.drew |>.imp (fun n h => h.imp id (fun h => h.to HEV.out.size ((TyK.of_ext HEW.out).trans (by exact tyP))))
 ·have hc1 : (x1 = o1) = True := eq_true h1
  have HC1 := hid h1
  clear h1
  go_enter Tryz.func123, Tryz.ntmps123
  go_wp2_with fail
  generalize hV : World.alloc _ _ = V
  have HEV := hid (show Ext w V by rw [← hV]; exact exP)
  have HB5 := hid (show Blk V w.heap.size [.slice pa pn pc, .slice va vn vc] by rw [← hV]; exact bkP)
  have HB8 := hid (show Blk V (w.heap.size + 1) [.int .i64 o1, .int .u32 o2, .int .u32 o3] by rw [← hV]; exact bkP)
  have HB9 := hid (show Blk V (w.heap.size + 1 + 1) [.int .i64 y1, .int .u32 y2, .int .u32 y3] by rw [← hV]; exact bkP)
  have HB10 := hid (show Blk V (w.heap.size + 1 + 1 + 1) [.slice none 0 0, .slice none 0 0] by rw [← hV]; exact bkP)
  have HB11 := hid (show Blk V (w.heap.size + 1 + 1 + 1 + 1) [.int .i64 0, .int .u32 0, .int .u32 0] by rw [← hV]; exact bkP)
  obtain ⟨g0, hg0⟩ : ∃ g, g = w.heap.size := ⟨_, rfl⟩
  have HGw := hid (show w.heap.size = g0 from hg0.symm)
  rw [← hg0] at HB5 HB8 HB9 HB10 HB11 ⊢
  obtain ⟨gB, hgB⟩ : ∃ g, g = g0 + 1 + 1 + 1 + 1 := ⟨_, rfl⟩
  rw [← hgB] at HB11 ⊢
  obtain ⟨gA, hgA⟩ : ∃ g, g = g0 + 1 + 1 + 1 := ⟨_, rfl⟩
  rw [← hgA] at HB10 ⊢
  obtain ⟨g9, hg9⟩ : ∃ g, g = g0 + 1 + 1 := ⟨_, rfl⟩
  rw [← hg9] at HB9 ⊢
  obtain ⟨g8, hg8⟩ : ∃ g, g = g0 + 1 := ⟨_, rfl⟩
  rw [← hg8] at HB8 ⊢
  have HGn := hid (show g8 = g0 + 1 ∧ g9 = g0 + 1 + 1 ∧ gA = g0 + 1 + 1 + 1 ∧ gB = g0 + 1 + 1 + 1 + 1 from ⟨hg8, hg9, hgA, hgB⟩)
  clear hV hg0 hgB hgA hg9 hg8
  refine (mLook_any (P := P) (fun b h => Nat.lt_of_lt_of_le (HP.out b h) HEV.out.size) (H.out.of HEV.out) t ti HT.out f HF.out HVn.out HPn.out at_ l HLl.out x1 x2 x3 x4 g HM.out (by have := HI.out; omega)).mono ?_
  rintro e w2 ⟨va', vc', rfl, he, hm⟩
  have HX := hid he
  have HMe := hid hm
  have h8 := HB8.out.of he
  clear he hm
  have b0 := h8.2.2 0 _ rfl
  have b1 := h8.2.2 1 _ rfl
  have b2 := h8.2.2 2 _ rfl
  have bg := h8.1
  clear h8
  go_upto_region 3 with fail
  generalize hW : World.alloc _ _ = W
  have HEW := hid (show Ext w2 W by rw [← hW]; exact exP)
  have HBE := hid (show Blk W w2.heap.size [.slice pa pn pc, .slice va' vn vc'] by rw [← hW]; exact bkP)
  have HBF := hid (show Blk W (w2.heap.size + 1) [.int .i64 x1, .int .u32 x2, .int .u32 x3] by rw [← hW]; exact bkP)
  obtain ⟨gF, hgF⟩ : ∃ g, g = w2.heap.size + 1 := ⟨_, rfl⟩
  rw [← hgF] at HBF ⊢
  obtain ⟨gE, hgE⟩ : ∃ g, g = w2.heap.size := ⟨_, rfl⟩
  rw [← hgE] at HBE ⊢
  have HGE := hid (show V.heap.size ≤ gE ∧ V.heap.size ≤ gF by have := HX.out.size; omega)
  clear hW hgF hgE b0 b1 b2 bg hd
  have HVW := hid (HX.out.trans HEW.out)
  have a0 := HBE.out.2.2 0 _ rfl
  have a1 := HBE.out.2.2 1 _ rfl
  have ag := HBE.out.1
  have c0 := HBF.out.2.2 0 _ rfl
  have c1 := HBF.out.2.2 1 _ rfl
  have c2 := HBF.out.2.2 2 _ rfl
  have cg := HBF.out.1
  have hgn := HGn.out
  have hwv := HVW.out.size
  have hbB := HB11.out.1
  have hgEF := HGE.out
  have HSt := hid (show ∀ w', Gr2 gA gB W w' → (fun w' => (w'.cell? ⟨gE, 0, none⟩ = some (.slice pa pn pc) ∧ w'.cell? ⟨gE, 1, none⟩ = some (.slice va' vn vc')) ∧ (w'.cell? ⟨gF, 0, none⟩ = some (.int .i64 x1) ∧ w'.cell? ⟨gF, 1, none⟩ = some (.int .u32 x2) ∧ w'.cell? ⟨gF, 2, none⟩ = some (.int .u32 x3)) ∧ (gE < w'.heap.size ∧ gF < w'.heap.size)) w' from fun w' G => ⟨⟨G.cell (by omega) (by omega) a0, G.cell (by omega) (by omega) a1⟩, ⟨G.cell (by omega) (by omega) c0, G.cell (by omega) (by omega) c1, G.cell (by omega) (by omega) c2⟩, Nat.lt_of_lt_of_le ag G.1, Nat.lt_of_lt_of_le cg G.1⟩)
  clear hgn hbB hwv hgEF
  have hA := HB10.out.of HVW.out
  have hB := HB11.out.of HVW.out
  have d0 := hA.2.2 0 _ rfl
  have d1 := hA.2.2 1 _ rfl
  have df := hA.2.1
  have dg := hA.1
  have e0 := hB.2.2 0 _ rfl
  have e1 := hB.2.2 1 _ rfl
  have e2 := hB.2.2 2 _ rfl
  have ef := hB.2.1
  have eg := hB.1
  have hab : ¬ gA = gB := by have := HGn.out; omega
  have hba : ¬ gB = gA := by have := HGn.out; omega
  clear hA hB
  refine wp_region_held_drew (S := fun w' => (w'.cell? ⟨gE, 0, none⟩ = some (.slice pa pn pc) ∧ w'.cell? ⟨gE, 1, none⟩ = some (.slice va' vn vc')) ∧ (w'.cell? ⟨gF, 0, none⟩ = some (.int .i64 x1) ∧ w'.cell? ⟨gF, 1, none⟩ = some (.int .u32 x2) ∧ w'.cell? ⟨gF, 2, none⟩ = some (.int .u32 x3)) ∧ (gE < w'.heap.size ∧ gF < w'.heap.size)) (by kernel_rfl) (by exact HSt.out _ (by repeat (first | with_reducible exact Gr2.refl | ((with_reducible refine Gr2.setL ?_ _ _)) | ((with_reducible refine Gr2.setR ?_ _ _)) | ((with_reducible refine Gr2.ext ?_ _)) | ((with_reducible refine Gr2.drew ?_))))) (fun hHeld => ?_)
  refine tkm 0 (v := ?_) rfl ?_ ?_
  rotate_left 1
  ·intro w hSw
   try dsimp only at hSw
   go_simp
   try with_reducible rfl
  (try simp only [Act.put, pA, pB, pC])
  refine tkm 1 (v := ?_) rfl ?_ ?_
  rotate_left 1
  ·intro w hSw
   try dsimp only at hSw
   go_simp
   try with_reducible rfl
  (try simp only [Act.put, pA, pB, pC])
  refine tkm 2 (v := ?_) rfl ?_ ?_
  rotate_left 1
  ·intro w hSw
   try dsimp only at hSw
   go_simp
   try with_reducible rfl
  (try simp only [Act.put, pA, pB, pC])
  refine take_only 3 (oi := ⟨_, _, _, _, _, _⟩) (by kernel_rfl) rfl (fun K hK => ?_)
  go_simp
  have hOld := hHeld
  clear hHeld
  refine hK.out _ _ (by exact HSt.out _ (by repeat (first | with_reducible exact Gr2.refl | ((with_reducible refine Gr2.setL ?_ _ _)) | ((with_reducible refine Gr2.setR ?_ _ _)) | ((with_reducible refine Gr2.ext ?_ _)) | ((with_reducible refine Gr2.drew ?_))))) (fun hHeld => ?_)
  clear hOld hK K
  (try simp only [Act.put, pA, pB, pC])
  refine take_only 4 (oi := ⟨_, _, _, _, _, _⟩) (by kernel_rfl) rfl (fun K hK => ?_)
  go_simp
  have hOld := hHeld
  clear hHeld
  refine hK.out _ _ (by exact HSt.out _ (by repeat (first | with_reducible exact Gr2.refl | ((with_reducible refine Gr2.setL ?_ _ _)) | ((with_reducible refine Gr2.setR ?_ _ _)) | ((with_reducible refine Gr2.ext ?_ _)) | ((with_reducible refine Gr2.drew ?_))))) (fun hHeld => ?_)
  clear hOld hK K
  (try simp only [Act.put, pA, pB, pC])
  refine tkm 5 (v := ?_) rfl ?_ ?_
  rotate_left 1
  ·intro w hSw
   try dsimp only at hSw
   go_simp
   try with_reducible rfl
  (try simp only [Act.put, pA, pB, pC])
  refine tkm 6 (v := ?_) rfl ?_ ?_
  rotate_left 1
  ·intro w hSw
   try dsimp only at hSw
   go_simp
   try with_reducible rfl
  (try simp only [Act.put, pA, pB, pC])
  refine wpAnyH_done (by kernel_rfl) ?_ _
  clear hHeld
  have hgn := HGn.out
  have hgw := HGw.out
  have hb10 := HB10.out.1
  have hb11 := HB11.out.1
  have HEw := hid (HEV.out.trans HVW.out)
  have hn : ∀ k, (k = gA ∨ k = gB) → ¬ (P k ∨ NewB memD V w2 k) := fun k hk h => by
   have hk1 : w.heap.size ≤ k ∧ k < V.heap.size := by omega
   rcases h with h | h
   ·have := HP.out _ h; omega
   ·have h1 := h.1; omega
  have hnA := hid (hn gA (.inl rfl))
  have hnB := hid (hn gB (.inr rfl))
  have hgeA : w.heap.size ≤ gA := by omega
  have hgeB : w.heap.size ≤ gB := by omega
  clear hn hb10 hb11 hgn hgw
  (repeat (first | go_values | go_skip | go_guarded | go_step | go_upon | (simp only [Int.not_lt, Int.not_le] at *; go_simp) | (go_ite <;> go_prune <;> (try go_simp))))
  refine bodyPost_ret (v := .tuple #[.agg #[.slice pa pn pc, .slice va' vn vc'], .agg #[.int .i64 x1, .int .u32 x2, .int .u32 x3], .bool false, .int .i64 0]) (by simp [results, Tryz.results123, go_sem, d0, d1, df, dg, e0, e1, e2, ef, eg, hab, hba]) rfl ⟨va', vc', rfl, by exact exF, ?_⟩
  have hk := MeR.kp (HMe.out.of HEW.out) ((((((KpB.refl).setCell hnA.out (i := 0) (.slice pa pn pc)).setCell hnA.out (i := 1) (.slice va' vn vc')).setCell hnB.out (i := 0) (.int .i64 x1)).setCell hnB.out (i := 1) (.int .u32 x2)).setCell hnB.out (i := 2) (.int .u32 x3))
  exact MeR.kp hk KpB.refl.drew |>.imp (fun n h => h.imp id (fun h => h.to HEV.out.size ((TyK.of_ext HEW.out).trans (by exact tyP))))
 ·have hc1 : (x1 = o1) = True := eq_true h1
  have hc2 : (x2 = o2) = True := eq_true h2
  have HC1 := hid h1
  have HC2 := hid h2
  clear h1 h2
  go_enter Tryz.func123, Tryz.ntmps123
  go_wp2_with fail
  generalize hV : World.alloc _ _ = V
  have HEV := hid (show Ext w V by rw [← hV]; exact exP)
  have HB5 := hid (show Blk V w.heap.size [.slice pa pn pc, .slice va vn vc] by rw [← hV]; exact bkP)
  have HB8 := hid (show Blk V (w.heap.size + 1) [.int .i64 o1, .int .u32 o2, .int .u32 o3] by rw [← hV]; exact bkP)
  have HB9 := hid (show Blk V (w.heap.size + 1 + 1) [.int .i64 y1, .int .u32 y2, .int .u32 y3] by rw [← hV]; exact bkP)
  have HB10 := hid (show Blk V (w.heap.size + 1 + 1 + 1) [.slice none 0 0, .slice none 0 0] by rw [← hV]; exact bkP)
  have HB11 := hid (show Blk V (w.heap.size + 1 + 1 + 1 + 1) [.int .i64 0, .int .u32 0, .int .u32 0] by rw [← hV]; exact bkP)
  obtain ⟨g0, hg0⟩ : ∃ g, g = w.heap.size := ⟨_, rfl⟩
  have HGw := hid (show w.heap.size = g0 from hg0.symm)
  rw [← hg0] at HB5 HB8 HB9 HB10 HB11 ⊢
  obtain ⟨gB, hgB⟩ : ∃ g, g = g0 + 1 + 1 + 1 + 1 := ⟨_, rfl⟩
  rw [← hgB] at HB11 ⊢
  obtain ⟨gA, hgA⟩ : ∃ g, g = g0 + 1 + 1 + 1 := ⟨_, rfl⟩
  rw [← hgA] at HB10 ⊢
  obtain ⟨g9, hg9⟩ : ∃ g, g = g0 + 1 + 1 := ⟨_, rfl⟩
  rw [← hg9] at HB9 ⊢
  obtain ⟨g8, hg8⟩ : ∃ g, g = g0 + 1 := ⟨_, rfl⟩
  rw [← hg8] at HB8 ⊢
  have HGn := hid (show g8 = g0 + 1 ∧ g9 = g0 + 1 + 1 ∧ gA = g0 + 1 + 1 + 1 ∧ gB = g0 + 1 + 1 + 1 + 1 from ⟨hg8, hg9, hgA, hgB⟩)
  clear hV hg0 hgB hgA hg9 hg8
  refine (mLook_any (P := P) (fun b h => Nat.lt_of_lt_of_le (HP.out b h) HEV.out.size) (H.out.of HEV.out) t ti HT.out f HF.out HVn.out HPn.out at_ l HLl.out x1 x2 x3 x4 g HM.out (by have := HI.out; omega)).mono ?_
  rintro e w2 ⟨va', vc', rfl, he, hm⟩
  have HX := hid he
  have HMe := hid hm
  have h8 := HB8.out.of he
  clear he hm
  have b0 := h8.2.2 0 _ rfl
  have b1 := h8.2.2 1 _ rfl
  have b2 := h8.2.2 2 _ rfl
  have bg := h8.1
  clear h8
  go_upto_region 3 with fail
  generalize hW : World.alloc _ _ = W
  have HEW := hid (show Ext w2 W by rw [← hW]; exact exP)
  have HBE := hid (show Blk W w2.heap.size [.slice pa pn pc, .slice va' vn vc'] by rw [← hW]; exact bkP)
  have HBF := hid (show Blk W (w2.heap.size + 1) [.int .i64 x1, .int .u32 x2, .int .u32 x3] by rw [← hW]; exact bkP)
  obtain ⟨gF, hgF⟩ : ∃ g, g = w2.heap.size + 1 := ⟨_, rfl⟩
  rw [← hgF] at HBF ⊢
  obtain ⟨gE, hgE⟩ : ∃ g, g = w2.heap.size := ⟨_, rfl⟩
  rw [← hgE] at HBE ⊢
  have HGE := hid (show V.heap.size ≤ gE ∧ V.heap.size ≤ gF by have := HX.out.size; omega)
  clear hW hgF hgE b0 b1 b2 bg hd
  have HVW := hid (HX.out.trans HEW.out)
  have a0 := HBE.out.2.2 0 _ rfl
  have a1 := HBE.out.2.2 1 _ rfl
  have ag := HBE.out.1
  have c0 := HBF.out.2.2 0 _ rfl
  have c1 := HBF.out.2.2 1 _ rfl
  have c2 := HBF.out.2.2 2 _ rfl
  have cg := HBF.out.1
  have hgn := HGn.out
  have hwv := HVW.out.size
  have hbB := HB11.out.1
  have hgEF := HGE.out
  have HSt := hid (show ∀ w', Gr2 gA gB W w' → (fun w' => (w'.cell? ⟨gE, 0, none⟩ = some (.slice pa pn pc) ∧ w'.cell? ⟨gE, 1, none⟩ = some (.slice va' vn vc')) ∧ (w'.cell? ⟨gF, 0, none⟩ = some (.int .i64 x1) ∧ w'.cell? ⟨gF, 1, none⟩ = some (.int .u32 x2) ∧ w'.cell? ⟨gF, 2, none⟩ = some (.int .u32 x3)) ∧ (gE < w'.heap.size ∧ gF < w'.heap.size)) w' from fun w' G => ⟨⟨G.cell (by omega) (by omega) a0, G.cell (by omega) (by omega) a1⟩, ⟨G.cell (by omega) (by omega) c0, G.cell (by omega) (by omega) c1, G.cell (by omega) (by omega) c2⟩, Nat.lt_of_lt_of_le ag G.1, Nat.lt_of_lt_of_le cg G.1⟩)
  clear hgn hbB hwv hgEF
  have hA := HB10.out.of HVW.out
  have hB := HB11.out.of HVW.out
  have d0 := hA.2.2 0 _ rfl
  have d1 := hA.2.2 1 _ rfl
  have df := hA.2.1
  have dg := hA.1
  have e0 := hB.2.2 0 _ rfl
  have e1 := hB.2.2 1 _ rfl
  have e2 := hB.2.2 2 _ rfl
  have ef := hB.2.1
  have eg := hB.1
  have hab : ¬ gA = gB := by have := HGn.out; omega
  have hba : ¬ gB = gA := by have := HGn.out; omega
  clear hA hB
  refine wp_region_held_drew (S := fun w' => (w'.cell? ⟨gE, 0, none⟩ = some (.slice pa pn pc) ∧ w'.cell? ⟨gE, 1, none⟩ = some (.slice va' vn vc')) ∧ (w'.cell? ⟨gF, 0, none⟩ = some (.int .i64 x1) ∧ w'.cell? ⟨gF, 1, none⟩ = some (.int .u32 x2) ∧ w'.cell? ⟨gF, 2, none⟩ = some (.int .u32 x3)) ∧ (gE < w'.heap.size ∧ gF < w'.heap.size)) (by kernel_rfl) (by exact HSt.out _ (by repeat (first | with_reducible exact Gr2.refl | ((with_reducible refine Gr2.setL ?_ _ _)) | ((with_reducible refine Gr2.setR ?_ _ _)) | ((with_reducible refine Gr2.ext ?_ _)) | ((with_reducible refine Gr2.drew ?_))))) (fun hHeld => ?_)
  refine tkm 0 (v := ?_) rfl ?_ ?_
  rotate_left 1
  ·intro w hSw
   try dsimp only at hSw
   go_simp
   try with_reducible rfl
  (try simp only [Act.put, pA, pB, pC])
  refine tkm 1 (v := ?_) rfl ?_ ?_
  rotate_left 1
  ·intro w hSw
   try dsimp only at hSw
   go_simp
   try with_reducible rfl
  (try simp only [Act.put, pA, pB, pC])
  refine tkm 2 (v := ?_) rfl ?_ ?_
  rotate_left 1
  ·intro w hSw
   try dsimp only at hSw
   go_simp
   try with_reducible rfl
  (try simp only [Act.put, pA, pB, pC])
  refine take_only 3 (oi := ⟨_, _, _, _, _, _⟩) (by kernel_rfl) rfl (fun K hK => ?_)
  go_simp
  have hOld := hHeld
  clear hHeld
  refine hK.out _ _ (by exact HSt.out _ (by repeat (first | with_reducible exact Gr2.refl | ((with_reducible refine Gr2.setL ?_ _ _)) | ((with_reducible refine Gr2.setR ?_ _ _)) | ((with_reducible refine Gr2.ext ?_ _)) | ((with_reducible refine Gr2.drew ?_))))) (fun hHeld => ?_)
  clear hOld hK K
  (try simp only [Act.put, pA, pB, pC])
  refine take_only 4 (oi := ⟨_, _, _, _, _, _⟩) (by kernel_rfl) rfl (fun K hK => ?_)
  go_simp
  have hOld := hHeld
  clear hHeld
  refine hK.out _ _ (by exact HSt.out _ (by repeat (first | with_reducible exact Gr2.refl | ((with_reducible refine Gr2.setL ?_ _ _)) | ((with_reducible refine Gr2.setR ?_ _ _)) | ((with_reducible refine Gr2.ext ?_ _)) | ((with_reducible refine Gr2.drew ?_))))) (fun hHeld => ?_)
  clear hOld hK K
  (try simp only [Act.put, pA, pB, pC])
  refine tkm 5 (v := ?_) rfl ?_ ?_
  rotate_left 1
  ·intro w hSw
   try dsimp only at hSw
   go_simp
   try with_reducible rfl
  (try simp only [Act.put, pA, pB, pC])
  refine tkm 6 (v := ?_) rfl ?_ ?_
  rotate_left 1
  ·intro w hSw
   try dsimp only at hSw
   go_simp
   try with_reducible rfl
  (try simp only [Act.put, pA, pB, pC])
  refine wpAnyH_done (by kernel_rfl) ?_ _
  clear hHeld
  have hgn := HGn.out
  have hgw := HGw.out
  have hb10 := HB10.out.1
  have hb11 := HB11.out.1
  have HEw := hid (HEV.out.trans HVW.out)
  have hn : ∀ k, (k = gA ∨ k = gB) → ¬ (P k ∨ NewB memD V w2 k) := fun k hk h => by
   have hk1 : w.heap.size ≤ k ∧ k < V.heap.size := by omega
   rcases h with h | h
   ·have := HP.out _ h; omega
   ·have h1 := h.1; omega
  have hnA := hid (hn gA (.inl rfl))
  have hnB := hid (hn gB (.inr rfl))
  have hgeA : w.heap.size ≤ gA := by omega
  have hgeB : w.heap.size ≤ gB := by omega
  clear hn hb10 hb11 hgn hgw
  (repeat (first | go_values | go_skip | go_guarded | go_step | go_upon | (simp only [Int.not_lt, Int.not_le] at *; go_simp) | (go_ite <;> go_prune <;> (try go_simp))))
  refine bodyPost_ret (v := .tuple #[.agg #[.slice pa pn pc, .slice va' vn vc'], .agg #[.int .i64 x1, .int .u32 x2, .int .u32 x3], .bool false, .int .i64 0]) (by simp [results, Tryz.results123, go_sem, d0, d1, df, dg, e0, e1, e2, ef, eg, hab, hba]) rfl ⟨va', vc', rfl, by exact exF, ?_⟩
  have hk := MeR.kp (HMe.out.of HEW.out) ((((((KpB.refl).setCell hnA.out (i := 0) (.slice pa pn pc)).setCell hnA.out (i := 1) (.slice va' vn vc')).setCell hnB.out (i := 0) (.int .i64 x1)).setCell hnB.out (i := 1) (.int .u32 x2)).setCell hnB.out (i := 2) (.int .u32 x3))
  exact MeR.kp hk KpB.refl.drew |>.imp (fun n h => h.imp id (fun h => h.to HEV.out.size ((TyK.of_ext HEW.out).trans (by exact tyP))))
end Go.Proofs.YtiacdohaiidehaaGreatDoor
