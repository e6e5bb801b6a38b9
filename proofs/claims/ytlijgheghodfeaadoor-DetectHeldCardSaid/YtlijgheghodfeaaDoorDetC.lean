/- Walks of package detect: Asked, Happened. -/
import Derived.Test.YtlijgheghodfeaaDoorDetB
import Derived.Test.YtlijgheghodfeaaDoorLogB
import Derived.Test.YtlijgheghodfeaaDoorGrn
namespace Go.Proofs.YtlijgheghodfeaaDoor
set_option linter.unusedSimpArgs false
set_option linter.unusedVariables false
open Go.RowKit

/-- Plain: what is asked of three values. -/
def askV (x y z : Int) : Int × (Int × Int) × Int := if x < 0 ∨ z < 0 ∨ 255 < z then (0, (0, 0), 5) else (x, (z, y), 0)
/-- Plain: what Asked answers: the number, the answer (its error, its value), the error. -/
def askN (t c b : Int) (l : List Wd) (x : Int) : Int × (Int × Int) × Int :=
  if checkN t c b ≠ 0 ∨ (l.length : Int) < sizeN t c b then (0, (0, 0), 1) else if recN t c b x < 0 then (0, (0, 0), 3)
  else askV (logicN t c b (l.take (sizeN t c b).toNat) (recN t c b x)).1.1 (logicN t c b (l.take (sizeN t c b).toNat) (recN t c b x + 1)).1.1 (logicN t c b (l.take (sizeN t c b).toNat) (recN t c b x + 2)).1.1
/-- Plain: what Happened answers. -/
def hapV (q : Int × (Int × Int) × Int) (n : Int) : (Int × Int) × Bool × Int :=
  if q.2.2 ≠ 0 then ((0, 0), false, q.2.2) else if n < 1 then ((0, 0), false, 4) else if n < q.1 then ((0, 0), false, 13) else if q.1 < n then ((0, 0), false, 0) else (q.2.1, true, 0)

/-- What Asked leaves. -/
def AskPost (w : World) (q : Int × (Int × Int) × Int) (y : Ending) (w' : World) : Prop := y = .returned (.tuple #[.int .i64 q.1, .agg #[.int .i64 q.2.1.1, .int .i64 q.2.1.2], .int .i64 q.2.2]) ∧ ∃ r, w' = ext w r
theorem AskPost.mk {w w' : World} {q : Int × (Int × Int) × Int} {a b c d : Int} (hq : q = (a, (b, c), d)) (h : ∃ r, w' = ext w r) : AskPost w q (.returned (.tuple #[.int .i64 a, .agg #[.int .i64 b, .int .i64 c], .int .i64 d])) w' := by
  subst hq; exact ⟨rfl, h⟩

/-- Plain: the three values after j rounds. -/
def rzV (x y z : Int) : Nat → List Value
  | 0 => [.int .i64 0, .int .i64 0, .int .i64 0]
  | 1 => [.int .i64 x, .int .i64 0, .int .i64 0]
  | 2 => [.int .i64 x, .int .i64 y, .int .i64 0]
  | _ => [.int .i64 x, .int .i64 y, .int .i64 z]

set_option maxRecDepth 100000 in
set_option maxHeartbeats 4000000 in
theorem asked_any (t c b x : Int) (l : List Wd) (lv : Value) (hok : ∀ a ∈ l, WdOk a) (hll : l.length ≤ 1000000) (w : World) (hs : Szs w) (hl : Sl w 3 wdE lv l) :
    Calls Tryd.prog 17 #[.agg #[.int .i64 t, .int .i64 c, .int .i64 b], lv, .int .i64 x] w fun y w' => AskPost w (askN t c b l x) y w' := by
  have heq := eql_locs
  have HS := hid hs
  have HL := hid hl
  have HO := hid hok
  obtain ⟨a, cp, rfl, ⟨_, hcap⟩, _⟩ := hl
  have hbd := recN_bd t c b x
  obtain ⟨p, hp⟩ : ∃ p, p = recN t c b x := ⟨_, rfl⟩
  have hmay := hid (rec_may (t := t) (c := c) (b := b) (x := x))
  rw [← hp] at hbd hmay
  obtain ⟨z, hz⟩ : ∃ z, z = sizeN t c b := ⟨_, rfl⟩
  obtain ⟨q, hq⟩ : ∃ q, q = askN t c b l x := ⟨_, rfl⟩
  rw [← hq]
  have HQ := hid hq
  have HP := hid hp.symm
  have HZ := hid hz
  obtain ⟨ck, hck⟩ : ∃ k, k = checkN t c b := ⟨_, rfl⟩
  have HC := hid hck.symm
  clear hs hok hp hq hck hz
  obtain ⟨hbd1, hbd2⟩ := hbd
  go_enter Tryd.func17, Tryd.ntmps17
  go_wp2_with fail
  refine (ats_any t c b x _ (HS.out.of (by (show Ext _ _; repeat (first | with_reducible (refine Hid.out ?_; assumption) | with_reducible exact Ext.refl _ | with_reducible refine Ext.ext ?_ _ | with_reducible refine Ext.alloc ?_ _ | refine Ext.drew ?_ | refine Ext.drewN ?_ _ | exact Ext.refl _))))).mono ?_
  rintro e w' ⟨⟨r1, rfl⟩, hy⟩
  rw [HP.out] at hy
  by_cases h1 : ck = 0
  rotate_left
  · have HR := hid (show q = (0, (0, 0), 1) by rw [HQ.out]; unfold askN; rw [if_pos (.inl (by rw [HC.out]; exact h1))])
    have hb : (ck != 0) = true := by simpa using h1
    obtain ⟨v1, rfl⟩ : ∃ v1, e = .returned v1 := by rcases hy with ⟨_, rfl⟩ | ⟨_, g, rfl, _⟩ <;> exact ⟨_, rfl⟩
    clear hy h1 HQ
    go_wp2_with fail
    refine (check_any t c b _ (HS.out.of (by (show Ext _ _; repeat (first | with_reducible (refine Hid.out ?_; assumption) | with_reducible exact Ext.refl _ | with_reducible refine Ext.ext ?_ _ | with_reducible refine Ext.alloc ?_ _ | refine Ext.drew ?_ | refine Ext.drewN ?_ _ | exact Ext.refl _))))).mono ?_
    rintro e w' ⟨rfl, r2, rfl⟩
    rw [HC.out]
    (repeat (first | go_values | go_skip | go_guarded | go_step | go_upon | (simp only [Int.not_lt, Int.not_le] at *; go_simp) | (go_ite <;> go_prune <;> (try go_simp))))
    exact bodyPost_ret (v := .tuple #[.int .i64 0, .agg #[.int .i64 0, .int .i64 0], .int .i64 1]) (by simp [results, Tryd.results17, go_sem]) rfl (AskPost.mk HR.out (by (show Ext _ _; repeat (first | with_reducible (refine Hid.out ?_; assumption) | with_reducible exact Ext.refl _ | with_reducible refine Ext.ext ?_ _ | with_reducible refine Ext.alloc ?_ _ | with_reducible refine Ext.drew ?_ | with_reducible refine Ext.setCell ?_ (by (try dsimp only); first | omega | (simp; done) | (simp; omega)) _))))
  subst h1
  by_cases h2 : (l.length : Int) < z
  · have HR := hid (show q = (0, (0, 0), 1) by rw [HQ.out]; unfold askN; rw [if_pos (.inr (by rw [← HZ.out]; exact h2))])
    obtain ⟨v1, rfl⟩ : ∃ v1, e = .returned v1 := by rcases hy with ⟨_, rfl⟩ | ⟨_, g, rfl, _⟩ <;> exact ⟨_, rfl⟩
    clear hy HQ
    go_wp2_with fail
    refine (check_any t c b _ (HS.out.of (by (show Ext _ _; repeat (first | with_reducible (refine Hid.out ?_; assumption) | with_reducible exact Ext.refl _ | with_reducible refine Ext.ext ?_ _ | with_reducible refine Ext.alloc ?_ _ | refine Ext.drew ?_ | refine Ext.drewN ?_ _ | exact Ext.refl _))))).mono ?_
    rintro e w' ⟨rfl, r2, rfl⟩
    rw [HC.out]
    go_wp2_with fail
    refine (size_any t c b _ (HS.out.of (by (show Ext _ _; repeat (first | with_reducible (refine Hid.out ?_; assumption) | with_reducible exact Ext.refl _ | with_reducible refine Ext.ext ?_ _ | with_reducible refine Ext.alloc ?_ _ | refine Ext.drew ?_ | refine Ext.drewN ?_ _ | exact Ext.refl _))))).mono ?_
    rintro e w' ⟨rfl, r3, rfl⟩
    rw [← HZ.out]
    (repeat (first | go_values | go_skip | go_guarded | go_step | go_upon | (simp only [Int.not_lt, Int.not_le] at *; go_simp) | (go_ite <;> go_prune <;> (try go_simp))))
    exact bodyPost_ret (v := .tuple #[.int .i64 0, .agg #[.int .i64 0, .int .i64 0], .int .i64 1]) (by simp [results, Tryd.results17, go_sem]) rfl (AskPost.mk HR.out (by (show Ext _ _; repeat (first | with_reducible (refine Hid.out ?_; assumption) | with_reducible exact Ext.refl _ | with_reducible refine Ext.ext ?_ _ | with_reducible refine Ext.alloc ?_ _ | with_reducible refine Ext.drew ?_ | with_reducible refine Ext.setCell ?_ (by (try dsimp only); first | omega | (simp; done) | (simp; omega)) _))))
  have hQ2 : q = if p < 0 then (0, (0, 0), 3) else askV (logicN t c b (l.take (sizeN t c b).toNat) p).1.1 (logicN t c b (l.take (sizeN t c b).toNat) (p + 1)).1.1 (logicN t c b (l.take (sizeN t c b).toNat) (p + 2)).1.1 := by
    rw [HQ.out]; unfold askN; rw [if_neg (by rintro (g | g); exact g HC.out; exact h2 (by rw [HZ.out]; exact g)), HP.out]
  have HQ2 := hid hQ2
  clear HQ hQ2
  by_cases h3 : p < 0
  · have HR := hid (show q = (0, (0, 0), 3) by rw [HQ2.out, if_pos h3])
    obtain rfl : e = .returned (.slice none 0 0) := by
      rcases hy with ⟨_, h⟩ | ⟨h, _⟩
      · exact h
      · omega
    clear hy HQ2
    go_wp2_with fail
    refine (check_any t c b _ (HS.out.of (by (show Ext _ _; repeat (first | with_reducible (refine Hid.out ?_; assumption) | with_reducible exact Ext.refl _ | with_reducible refine Ext.ext ?_ _ | with_reducible refine Ext.alloc ?_ _ | refine Ext.drew ?_ | refine Ext.drewN ?_ _ | exact Ext.refl _))))).mono ?_
    rintro e w' ⟨rfl, r2, rfl⟩
    rw [HC.out]
    go_wp2_with fail
    refine (size_any t c b _ (HS.out.of (by (show Ext _ _; repeat (first | with_reducible (refine Hid.out ?_; assumption) | with_reducible exact Ext.refl _ | with_reducible refine Ext.ext ?_ _ | with_reducible refine Ext.alloc ?_ _ | refine Ext.drew ?_ | refine Ext.drewN ?_ _ | exact Ext.refl _))))).mono ?_
    rintro e w' ⟨rfl, r3, rfl⟩
    rw [← HZ.out]
    (repeat (first | go_values | go_skip | go_guarded | go_step | go_upon | (simp only [Int.not_lt, Int.not_le] at *; go_simp) | (go_ite <;> go_prune <;> (try go_simp))))
    exact bodyPost_ret (v := .tuple #[.int .i64 0, .agg #[.int .i64 0, .int .i64 0], .int .i64 3]) (by simp [results, Tryd.results17, go_sem]) rfl (AskPost.mk HR.out (by (show Ext _ _; repeat (first | with_reducible (refine Hid.out ?_; assumption) | with_reducible exact Ext.refl _ | with_reducible refine Ext.ext ?_ _ | with_reducible refine Ext.alloc ?_ _ | with_reducible refine Ext.drew ?_ | with_reducible refine Ext.setCell ?_ (by (try dsimp only); first | omega | (simp; done) | (simp; omega)) _))))
  have hp0 : 0 ≤ p := by omega
  have HQ3 := hid (show q = askV (logicN t c b (l.take (sizeN t c b).toNat) p).1.1 (logicN t c b (l.take (sizeN t c b).toNat) (p + 1)).1.1 (logicN t c b (l.take (sizeN t c b).toNat) (p + 2)).1.1 by rw [HQ2.out, if_neg h3])
  rcases hy with ⟨h, _⟩ | ⟨_, g, rfl, hbk⟩
  · omega
  obtain ⟨m0, m1, m2, m3⟩ := hmay.out hp0
  have HM := hid (And.intro m0 (And.intro m1 m2))
  have HBk := hid hbk
  rw [← HZ.out] at m3
  obtain ⟨n, rfl⟩ := Int.eq_ofNat_of_zero_le (show 0 ≤ z by omega)
  have hnl : n ≤ l.length := by omega
  have hdn : decide (l.length < n) = false := decide_eq_false (by omega)
  clear hbk HQ2 m0 m1 m2 hmay
  go_wp2_with fail
  refine (check_any t c b _ (HS.out.of (by (show Ext _ _; repeat (first | with_reducible (refine Hid.out ?_; assumption) | with_reducible exact Ext.refl _ | with_reducible refine Ext.ext ?_ _ | with_reducible refine Ext.alloc ?_ _ | refine Ext.drew ?_ | refine Ext.drewN ?_ _ | exact Ext.refl _))))).mono ?_
  rintro e w' ⟨rfl, r2, rfl⟩
  rw [HC.out]
  go_wp2_with fail
  refine (size_any t c b _ (HS.out.of (by (show Ext _ _; repeat (first | with_reducible (refine Hid.out ?_; assumption) | with_reducible exact Ext.refl _ | with_reducible refine Ext.ext ?_ _ | with_reducible refine Ext.alloc ?_ _ | refine Ext.drew ?_ | refine Ext.drewN ?_ _ | exact Ext.refl _))))).mono ?_
  rintro e w' ⟨rfl, r3, rfl⟩
  rw [← HZ.out]
  go_wp2_with fail
  generalize hU : World.alloc _ _ = U
  have HEU := hid (show Ext w U by rw [← hU]; (show Ext _ _; repeat (first | with_reducible (refine Hid.out ?_; assumption) | with_reducible exact Ext.refl _ | with_reducible refine Ext.ext ?_ _ | with_reducible refine Ext.alloc ?_ _ | refine Ext.drew ?_ | refine Ext.drewN ?_ _ | exact Ext.refl _)))
  have HBl := hid (show Blk U w.heap.size [.int .i64 t, .int .i64 c, .int .i64 b] by rw [← hU]; (show Blk _ _ _; repeat (first | with_reducible (refine Hid.out ?_; assumption) | with_reducible refine Blk.drew ?_ | with_reducible refine Blk.ext ?_ _ | (with_reducible refine Blk.new _ _ rfl ?_; first | with_reducible rfl | (simp; done)) | with_reducible refine Blk.alloc ?_ _ | with_reducible assumption | with_reducible apply Blk.setE | (with_reducible refine Blk.other' ?_ ?_; first | omega | (simp; omega)) | (show List.set _ _ _ = _; exact rfl) | (show _ < List.length _; simp; done))))
  have HBr := hid (show Blk U (w.heap.size + 1) [.int .i64 0, .int .i64 0] by rw [← hU]; (show Blk _ _ _; repeat (first | with_reducible (refine Hid.out ?_; assumption) | with_reducible refine Blk.drew ?_ | with_reducible refine Blk.ext ?_ _ | (with_reducible refine Blk.new _ _ rfl ?_; first | with_reducible rfl | (simp; done)) | with_reducible refine Blk.alloc ?_ _ | with_reducible assumption | with_reducible apply Blk.setE | (with_reducible refine Blk.other' ?_ ?_; first | omega | (simp; omega)) | (show List.set _ _ _ = _; exact rfl) | (show _ < List.length _; simp; done))))
  have HBz := hid (show Blk U (w.heap.size + 1 + 1 + r1.new.size + r2.new.size + r3.new.size) [.int .i64 0, .int .i64 0, .int .i64 0] by rw [← hU]; (show Blk _ _ _; repeat (first | with_reducible (refine Hid.out ?_; assumption) | with_reducible refine Blk.drew ?_ | with_reducible refine Blk.ext ?_ _ | (with_reducible refine Blk.new _ _ rfl ?_; first | with_reducible rfl | (simp; done)) | with_reducible refine Blk.alloc ?_ _ | with_reducible assumption | with_reducible apply Blk.setE | (with_reducible refine Blk.other' ?_ ?_; first | omega | (simp; omega)) | (show List.set _ _ _ = _; exact rfl) | (show _ < List.length _; simp; done))))
  have HBg := hid (HBk.out.of (show Ext _ U by rw [← hU]; (show Ext _ _; repeat (first | with_reducible (refine Hid.out ?_; assumption) | with_reducible exact Ext.refl _ | with_reducible refine Ext.ext ?_ _ | with_reducible refine Ext.alloc ?_ _ | refine Ext.drew ?_ | refine Ext.drewN ?_ _ | exact Ext.refl _))))
  have hgz : g < w.heap.size + 1 + 1 + r1.new.size + r2.new.size + r3.new.size := by have := HBk.out.1; simp at this; omega
  generalize hnz : w.heap.size + 1 + 1 + r1.new.size + r2.new.size + r3.new.size = nz at *
  generalize hnr : w.heap.size + 1 = nr at *
  have hwz : w.heap.size < nr ∧ nr < nz := by omega
  obtain ⟨L, hL⟩ : ∃ L, L = l.take n := ⟨_, rfl⟩
  have HLn := hid (show L.length = n by rw [hL, List.length_take]; omega)
  have HLo := hid (show ∀ a ∈ L, WdOk a from fun a ha => HO.out a (by rw [hL] at ha; exact List.mem_of_mem_take ha))
  have hlg : ∀ k : Nat, k < 3 → ∃ x1 x2 x3, logicN t c b L (p + k) = ((x1, x2, x3), 0) := by
    intro k hk
    have hm : mayN t c b (p + k) = true := by
      obtain ⟨g0, g1, g2⟩ := HM.out
      have hcj : k = 0 ∨ k = 1 ∨ k = 2 := by omega
      rcases hcj with rfl | rfl | rfl
      · simpa using g0
      · simpa using g1
      · simpa using g2
    obtain ⟨⟨y1, y2, y3⟩, hy⟩ : ∃ y, L[(p + k).toNat]? = some y := ⟨_, List.getElem?_eq_getElem (by rw [HLn.out]; omega)⟩
    unfold logicN
    rw [if_neg (by rintro (h | h); exact h HC.out; rw [HLn.out, ← HZ.out] at h; omega), if_neg (by rw [hm]; simp), hy]
    exact ⟨_, _, _, rfl⟩
  have HLg := hid hlg
  obtain ⟨R0, h0⟩ : ∃ R, R = (logicN t c b L p).1.1 := ⟨_, rfl⟩
  obtain ⟨R1, h1⟩ : ∃ R, R = (logicN t c b L (p + 1)).1.1 := ⟨_, rfl⟩
  obtain ⟨R2, h2'⟩ : ∃ R, R = (logicN t c b L (p + 2)).1.1 := ⟨_, rfl⟩
  have HQ4 := hid (show q = askV R0 R1 R2 by rw [HQ3.out, ← HZ.out, Int.toNat_natCast, ← hL, h0, h1, h2'])
  have HR0 := hid h0
  have HR1 := hid h1
  have HR2 := hid h2'
  have HLd := hid hL
  obtain ⟨b0, o0, rfl, hbl⟩ : ∃ b0 o0, a = some ⟨b0, o0, none⟩ ∧ b0 < w.heap.size := by
    obtain ⟨_, b0, o0, g1, g2, _⟩ := Sl.at HL.out (List.getElem?_eq_getElem (show 0 < l.length by omega))
    exact ⟨b0, o0, g1, g2⟩
  have HLs := hid (show Sl w 3 wdE (.slice (some ⟨b0, o0, none⟩) n cp) L by rw [hL]; exact HL.out.take n hnl cp (by omega))
  clear hU HBk HQ3 hlg h0 h1 h2' hL HL HM
  go_loopw [36] (fun i wr => ∃ j : Nat, j ≤ 3 ∧ i = .int .i64 j ∧ Hid (Blk wr nz (rzV R0 R1 R2 j)) ∧ Hid (Grn nz U wr)) (fun i _ => 3 - (intOf i).toNat)
  case atStart => exact ⟨0, by omega, rfl, HBz, hid Grn.refl⟩
  case round =>
  clear HBz
  obtain ⟨j, hj, rfl, HBz, HG⟩ := hrel
  have hUz := HEU.out.size
  have HEw := hid (HEU.out.grn HG.out (by omega))
  have HBlw := hid (HBl.out.grn HG.out (by omega))
  have HBrw := hid (HBr.out.grn HG.out (by omega))
  have HBgw := hid (HBg.out.grn HG.out (by omega))
  by_cases hj3 : j < 3
  · have hjj : (j : Int) < 3 := by omega
    obtain ⟨x1, x2, x3, hlx⟩ := HLg.out j hj3
    have HLx := hid hlx
    have HRj := hid (show (rzV R0 R1 R2 j).set j (.int .i64 x1) = rzV R0 R1 R2 (j + 1) by
      have hcj : j = 0 ∨ j = 1 ∨ j = 2 := by omega
      rcases hcj with rfl | rfl | rfl
      · simp at hlx; rw [show x1 = R0 by rw [HR0.out, hlx]]; rfl
      · rw [show x1 = R1 by rw [HR1.out]; simp at hlx; rw [hlx]]; rfl
      · rw [show x1 = R2 by rw [HR2.out]; simp at hlx; rw [hlx]]; rfl)
    have hzl : (rzV R0 R1 R2 j).length = 3 := by
      have hcj : j = 0 ∨ j = 1 ∨ j = 2 := by omega
      rcases hcj with rfl | rfl | rfl <;> rfl
    have q0 : wr.cell? ⟨g, j, none⟩ = some (.int .i64 (p + j)) := by
      refine HBgw.out.2.2 j _ ?_
      have hcj : j = 0 ∨ j = 1 ∨ j = 2 := by omega
      rcases hcj with rfl | rfl | rfl <;> simp
    obtain ⟨l0, l1, l2⟩ := HBlw.out.three
    have l4 := HBlw.out.1
    have hn0 : (0 : Int) ≤ (n : Int) := by omega
    have hn1 : (n : Int) ≤ (cp : Int) := by omega
    have HZl := hid hzl
    clear hlx hzl
    go_upto_region 10 with fail
    go_cut [13, 14] (fun a13 a14 wx => ∃ g2 : Nat, a13 = .pointer (some ⟨g2, 0, none⟩) ∧ a14 = .int .i64 0 ∧ Blk wx g2 [.int .i64 x1, .int .u32 x2, .int .u32 x3] ∧ Ext wr wx ∧ wr.heap.size ≤ g2)
    case first =>
      refine wp_region_held_drew (S := fun w' => (w'.cell? ⟨w.heap.size, 0, none⟩ = some (.int .i64 t) ∧ w'.cell? ⟨w.heap.size, 1, none⟩ = some (.int .i64 c) ∧ w'.cell? ⟨w.heap.size, 2, none⟩ = some (.int .i64 b))) (by kernel_rfl) (by exact ⟨(show Ext wr _ by (show Ext _ _; repeat (first | with_reducible (refine Hid.out ?_; assumption) | with_reducible exact Ext.refl _ | with_reducible refine Ext.ext ?_ _ | with_reducible refine Ext.alloc ?_ _ | with_reducible refine Ext.drew ?_ | with_reducible refine Ext.setCell ?_ (by (try dsimp only); first | omega | (simp; done) | (simp; omega)) _))).cell l0, (show Ext wr _ by (show Ext _ _; repeat (first | with_reducible (refine Hid.out ?_; assumption) | with_reducible exact Ext.refl _ | with_reducible refine Ext.ext ?_ _ | with_reducible refine Ext.alloc ?_ _ | with_reducible refine Ext.drew ?_ | with_reducible refine Ext.setCell ?_ (by (try dsimp only); first | omega | (simp; done) | (simp; omega)) _))).cell l1, (show Ext wr _ by (show Ext _ _; repeat (first | with_reducible (refine Hid.out ?_; assumption) | with_reducible exact Ext.refl _ | with_reducible refine Ext.ext ?_ _ | with_reducible refine Ext.alloc ?_ _ | with_reducible refine Ext.drew ?_ | with_reducible refine Ext.setCell ?_ (by (try dsimp only); first | omega | (simp; done) | (simp; omega)) _))).cell l2⟩) (fun hHeld => ?_)
      refine take_met 0 (oi := ⟨_, _, _, _, _, _⟩) (v := ?_) (by kernel_rfl) rfl (by rfl) (fun _ _ _ h => h) (by assumption) ?_ ?_
      rotate_left 1
      · intro w hSw
        try dsimp only at hSw
        go_simp
        try with_reducible rfl
      (try simp only [Act.put, List.setIfInBounds_toArray, List.set_cons_zero, List.set_cons_succ])
      refine take_met 1 (oi := ⟨_, _, _, _, _, _⟩) (v := ?_) (by kernel_rfl) rfl (by rfl) (fun _ _ _ h => h) (by assumption) ?_ ?_
      rotate_left 1
      · intro w hSw
        try dsimp only at hSw
        go_simp
        try with_reducible rfl
      (try simp only [Act.put, List.setIfInBounds_toArray, List.set_cons_zero, List.set_cons_succ])
      refine take_met 2 (oi := ⟨_, _, _, _, _, _⟩) (v := ?_) (by kernel_rfl) rfl (by rfl) (fun _ _ _ h => h) (by assumption) ?_ ?_
      rotate_left 1
      · intro w hSw
        try dsimp only at hSw
        go_simp
        try with_reducible rfl
      (try simp only [Act.put, List.setIfInBounds_toArray, List.set_cons_zero, List.set_cons_succ])
      refine take_met 5 (oi := ⟨_, _, _, _, _, _⟩) (v := ?_) (by kernel_rfl) rfl (by rfl) (fun _ _ _ h => h) (by assumption) ?_ ?_
      rotate_left 1
      · intro w hSw
        try dsimp only at hSw
        go_simp
        try with_reducible rfl
      (try simp only [Act.put, List.setIfInBounds_toArray, List.set_cons_zero, List.set_cons_succ])
      refine wpAnyH_ready (rs := [3, 10]) (by kernel_rfl) (by simp) ?_
      refine AllReadyH.cons (o := ⟨_, _, _, _, _, _⟩) rfl (fun K hK => ?_) ?_
      · skip
        go_simp
        first
          | (go_at_call 16; refine (size_any t c b _ (HS.out.of (HEw.out.trans (by (show Ext _ _; repeat (first | with_reducible (refine Hid.out ?_; assumption) | with_reducible exact Ext.refl _ | with_reducible refine Ext.ext ?_ _ | with_reducible refine Ext.alloc ?_ _ | refine Ext.drew ?_ | refine Ext.drewN ?_ _ | exact Ext.refl _)))))).mono ?_; rintro e w' ⟨rfl, r4, rfl⟩; rw [← HZ.out])
        have hOld := hHeld
        clear hHeld
        refine hK.out _ _ (by exact ⟨(show Ext wr _ by (show Ext _ _; repeat (first | with_reducible (refine Hid.out ?_; assumption) | with_reducible exact Ext.refl _ | with_reducible refine Ext.ext ?_ _ | with_reducible refine Ext.alloc ?_ _ | with_reducible refine Ext.drew ?_ | with_reducible refine Ext.setCell ?_ (by (try dsimp only); first | omega | (simp; done) | (simp; omega)) _))).cell l0, (show Ext wr _ by (show Ext _ _; repeat (first | with_reducible (refine Hid.out ?_; assumption) | with_reducible exact Ext.refl _ | with_reducible refine Ext.ext ?_ _ | with_reducible refine Ext.alloc ?_ _ | with_reducible refine Ext.drew ?_ | with_reducible refine Ext.setCell ?_ (by (try dsimp only); first | omega | (simp; done) | (simp; omega)) _))).cell l1, (show Ext wr _ by (show Ext _ _; repeat (first | with_reducible (refine Hid.out ?_; assumption) | with_reducible exact Ext.refl _ | with_reducible refine Ext.ext ?_ _ | with_reducible refine Ext.alloc ?_ _ | with_reducible refine Ext.drew ?_ | with_reducible refine Ext.setCell ?_ (by (try dsimp only); first | omega | (simp; done) | (simp; omega)) _))).cell l2⟩) (fun hHeld => ?_)
        clear hOld hK K
        (try simp only [Act.put, List.setIfInBounds_toArray, List.set_cons_zero, List.set_cons_succ])
        refine take_met 4 (oi := ⟨_, _, _, _, _, _⟩) (v := ?_) (by kernel_rfl) rfl (by rfl) (fun _ _ _ h => h) (by assumption) ?_ ?_
        rotate_left 1
        · intro w hSw
          try dsimp only at hSw
          go_simp
          try with_reducible rfl
        (try simp only [Act.put, List.setIfInBounds_toArray, List.set_cons_zero, List.set_cons_succ])
        refine wpAnyH_ready (rs := [6, 10]) (by kernel_rfl) (by simp) ?_
        refine AllReadyH.cons (o := ⟨_, _, _, _, _, _⟩) rfl (fun K hK => ?_) ?_
        · skip
          go_simp
          first
            | (go_at_call 19; refine (logical_any t c b (p + j) (by omega) (by omega) L _ HLo.out _ (HS.out.of (HEw.out.trans (by (show Ext _ _; repeat (first | with_reducible (refine Hid.out ?_; assumption) | with_reducible exact Ext.refl _ | with_reducible refine Ext.ext ?_ _ | with_reducible refine Ext.alloc ?_ _ | refine Ext.drew ?_ | refine Ext.drewN ?_ _ | exact Ext.refl _))))) (HLs.out.of wdE_len (HEw.out.trans (by (show Ext _ _; repeat (first | with_reducible (refine Hid.out ?_; assumption) | with_reducible exact Ext.refl _ | with_reducible refine Ext.ext ?_ _ | with_reducible refine Ext.alloc ?_ _ | refine Ext.drew ?_ | refine Ext.drewN ?_ _ | exact Ext.refl _)))))).mono ?_; rintro y w' ⟨rfl, r5, rfl⟩; rw [HLx.out]; dsimp only)
          have hOld := hHeld
          clear hHeld
          refine hK.out _ _ (by exact ⟨(show Ext wr _ by (show Ext _ _; repeat (first | with_reducible (refine Hid.out ?_; assumption) | with_reducible exact Ext.refl _ | with_reducible refine Ext.ext ?_ _ | with_reducible refine Ext.alloc ?_ _ | with_reducible refine Ext.drew ?_ | with_reducible refine Ext.setCell ?_ (by (try dsimp only); first | omega | (simp; done) | (simp; omega)) _))).cell l0, (show Ext wr _ by (show Ext _ _; repeat (first | with_reducible (refine Hid.out ?_; assumption) | with_reducible exact Ext.refl _ | with_reducible refine Ext.ext ?_ _ | with_reducible refine Ext.alloc ?_ _ | with_reducible refine Ext.drew ?_ | with_reducible refine Ext.setCell ?_ (by (try dsimp only); first | omega | (simp; done) | (simp; omega)) _))).cell l1, (show Ext wr _ by (show Ext _ _; repeat (first | with_reducible (refine Hid.out ?_; assumption) | with_reducible exact Ext.refl _ | with_reducible refine Ext.ext ?_ _ | with_reducible refine Ext.alloc ?_ _ | with_reducible refine Ext.drew ?_ | with_reducible refine Ext.setCell ?_ (by (try dsimp only); first | omega | (simp; done) | (simp; omega)) _))).cell l2⟩) (fun hHeld => ?_)
          clear hOld hK K
          (try simp only [Act.put, List.setIfInBounds_toArray, List.set_cons_zero, List.set_cons_succ])
          refine take_met 7 (oi := ⟨_, _, _, _, _, _⟩) (v := ?_) (by kernel_rfl) rfl (by rfl) (fun _ _ _ h => h) (by assumption) ?_ ?_
          rotate_left 1
          · intro w hSw
            try dsimp only at hSw
            go_simp
            try with_reducible rfl
          (try simp only [Act.put, List.setIfInBounds_toArray, List.set_cons_zero, List.set_cons_succ])
          refine take_met 8 (oi := ⟨_, _, _, _, _, _⟩) (v := ?_) (by kernel_rfl) rfl (by rfl) (fun _ _ _ h => h) (by assumption) ?_ ?_
          rotate_left 1
          · intro w hSw
            try dsimp only at hSw
            go_simp
            try with_reducible rfl
          (try simp only [Act.put, List.setIfInBounds_toArray, List.set_cons_zero, List.set_cons_succ])
          refine take_met 9 (oi := ⟨_, _, _, _, _, _⟩) (v := ?_) (by kernel_rfl) rfl (by rfl) (fun _ _ _ h => h) (by assumption) ?_ ?_
          rotate_left 1
          · intro w hSw
            try dsimp only at hSw
            go_simp
            try with_reducible rfl
          (try simp only [Act.put, List.setIfInBounds_toArray, List.set_cons_zero, List.set_cons_succ])
          refine take_only 10 (oi := ⟨_, _, _, _, _, _⟩) (by kernel_rfl) rfl (fun K hK => ?_)
          go_simp
          have hOld := hHeld
          clear hHeld
          refine hK.out _ _ (by exact ⟨(show Ext wr _ by (show Ext _ _; repeat (first | with_reducible (refine Hid.out ?_; assumption) | with_reducible exact Ext.refl _ | with_reducible refine Ext.ext ?_ _ | with_reducible refine Ext.alloc ?_ _ | with_reducible refine Ext.drew ?_ | with_reducible refine Ext.setCell ?_ (by (try dsimp only); first | omega | (simp; done) | (simp; omega)) _))).cell l0, (show Ext wr _ by (show Ext _ _; repeat (first | with_reducible (refine Hid.out ?_; assumption) | with_reducible exact Ext.refl _ | with_reducible refine Ext.ext ?_ _ | with_reducible refine Ext.alloc ?_ _ | with_reducible refine Ext.drew ?_ | with_reducible refine Ext.setCell ?_ (by (try dsimp only); first | omega | (simp; done) | (simp; omega)) _))).cell l1, (show Ext wr _ by (show Ext _ _; repeat (first | with_reducible (refine Hid.out ?_; assumption) | with_reducible exact Ext.refl _ | with_reducible refine Ext.ext ?_ _ | with_reducible refine Ext.alloc ?_ _ | with_reducible refine Ext.drew ?_ | with_reducible refine Ext.setCell ?_ (by (try dsimp only); first | omega | (simp; done) | (simp; omega)) _))).cell l2⟩) (fun hHeld => ?_)
          clear hOld hK K
          (try simp only [Act.put, List.setIfInBounds_toArray, List.set_cons_zero, List.set_cons_succ])
          refine take_only 11 (oi := ⟨_, _, _, _, _, _⟩) (by kernel_rfl) rfl (fun K hK => ?_)
          go_simp
          have hOld := hHeld
          clear hHeld
          refine hK.out _ _ (by exact ⟨(show Ext wr _ by (show Ext _ _; repeat (first | with_reducible (refine Hid.out ?_; assumption) | with_reducible exact Ext.refl _ | with_reducible refine Ext.ext ?_ _ | with_reducible refine Ext.alloc ?_ _ | with_reducible refine Ext.drew ?_ | with_reducible refine Ext.setCell ?_ (by (try dsimp only); first | omega | (simp; done) | (simp; omega)) _))).cell l0, (show Ext wr _ by (show Ext _ _; repeat (first | with_reducible (refine Hid.out ?_; assumption) | with_reducible exact Ext.refl _ | with_reducible refine Ext.ext ?_ _ | with_reducible refine Ext.alloc ?_ _ | with_reducible refine Ext.drew ?_ | with_reducible refine Ext.setCell ?_ (by (try dsimp only); first | omega | (simp; done) | (simp; omega)) _))).cell l1, (show Ext wr _ by (show Ext _ _; repeat (first | with_reducible (refine Hid.out ?_; assumption) | with_reducible exact Ext.refl _ | with_reducible refine Ext.ext ?_ _ | with_reducible refine Ext.alloc ?_ _ | with_reducible refine Ext.drew ?_ | with_reducible refine Ext.setCell ?_ (by (try dsimp only); first | omega | (simp; done) | (simp; omega)) _))).cell l2⟩) (fun hHeld => ?_)
          clear hOld hK K
          (try simp only [Act.put, List.setIfInBounds_toArray, List.set_cons_zero, List.set_cons_succ])
          refine take_met 12 (oi := ⟨_, _, _, _, _, _⟩) (v := ?_) (by kernel_rfl) rfl (by rfl) (fun _ _ _ h => h) (by assumption) ?_ ?_
          rotate_left 1
          · intro w hSw
            try dsimp only at hSw
            go_simp
            try with_reducible rfl
          (try simp only [Act.put, List.setIfInBounds_toArray, List.set_cons_zero, List.set_cons_succ])
          refine wpAnyH_done (by kernel_rfl) ?_ _
          go_wp2_with fail
          go_meet
          exact ⟨_, rfl, rfl, by (show Blk _ _ _; repeat (first | with_reducible (refine Hid.out ?_; assumption) | with_reducible apply Blk.drew | with_reducible apply Blk.ext | ((with_reducible refine Blk.new _ _ rfl ?_); first | with_reducible rfl | focus (simp; done)) | ((with_reducible apply Blk.newE); first | with_reducible rfl | focus (simp; done)) | with_reducible apply Blk.alloc | with_reducible assumption | with_reducible apply Blk.setE | ((with_reducible refine Blk.other' ?_ ?_); first | omega | (simp; omega)) | (show List.set _ _ _ = _; exact rfl) | focus (show _ < List.length _; simp; done))), by (show Ext _ _; repeat (first | with_reducible (refine Hid.out ?_; assumption) | with_reducible exact Ext.refl _ | with_reducible refine Ext.ext ?_ _ | with_reducible refine Ext.alloc ?_ _ | with_reducible refine Ext.drew ?_ | with_reducible refine Ext.setCell ?_ (by (try dsimp only); first | omega | (simp; done) | (simp; omega)) _)), by omega⟩
        refine AllReadyH.cons (o := ⟨_, _, _, _, _, _⟩) rfl (fun K hK => ?_) AllReadyH.nil
        go_simp
        have hOld := hHeld
        clear hHeld
        refine hK.out _ _ (by exact ⟨(show Ext wr _ by (show Ext _ _; repeat (first | with_reducible (refine Hid.out ?_; assumption) | with_reducible exact Ext.refl _ | with_reducible refine Ext.ext ?_ _ | with_reducible refine Ext.alloc ?_ _ | with_reducible refine Ext.drew ?_ | with_reducible refine Ext.setCell ?_ (by (try dsimp only); first | omega | (simp; done) | (simp; omega)) _))).cell l0, (show Ext wr _ by (show Ext _ _; repeat (first | with_reducible (refine Hid.out ?_; assumption) | with_reducible exact Ext.refl _ | with_reducible refine Ext.ext ?_ _ | with_reducible refine Ext.alloc ?_ _ | with_reducible refine Ext.drew ?_ | with_reducible refine Ext.setCell ?_ (by (try dsimp only); first | omega | (simp; done) | (simp; omega)) _))).cell l1, (show Ext wr _ by (show Ext _ _; repeat (first | with_reducible (refine Hid.out ?_; assumption) | with_reducible exact Ext.refl _ | with_reducible refine Ext.ext ?_ _ | with_reducible refine Ext.alloc ?_ _ | with_reducible refine Ext.drew ?_ | with_reducible refine Ext.setCell ?_ (by (try dsimp only); first | omega | (simp; done) | (simp; omega)) _))).cell l2⟩) (fun hHeld => ?_)
        clear hOld hK K
        (try simp only [Act.put, List.setIfInBounds_toArray, List.set_cons_zero, List.set_cons_succ])
        refine take_only 6 (oi := ⟨_, _, _, _, _, _⟩) (by kernel_rfl) rfl (fun K hK => ?_)
        go_simp
        first
          | (go_at_call 19; refine (logical_any t c b (p + j) (by omega) (by omega) L _ HLo.out _ (HS.out.of (HEw.out.trans (by (show Ext _ _; repeat (first | with_reducible (refine Hid.out ?_; assumption) | with_reducible exact Ext.refl _ | with_reducible refine Ext.ext ?_ _ | with_reducible refine Ext.alloc ?_ _ | refine Ext.drew ?_ | refine Ext.drewN ?_ _ | exact Ext.refl _))))) (HLs.out.of wdE_len (HEw.out.trans (by (show Ext _ _; repeat (first | with_reducible (refine Hid.out ?_; assumption) | with_reducible exact Ext.refl _ | with_reducible refine Ext.ext ?_ _ | with_reducible refine Ext.alloc ?_ _ | refine Ext.drew ?_ | refine Ext.drewN ?_ _ | exact Ext.refl _)))))).mono ?_; rintro y w' ⟨rfl, r5, rfl⟩; rw [HLx.out]; dsimp only)
        have hOld := hHeld
        clear hHeld
        refine hK.out _ _ (by exact ⟨(show Ext wr _ by (show Ext _ _; repeat (first | with_reducible (refine Hid.out ?_; assumption) | with_reducible exact Ext.refl _ | with_reducible refine Ext.ext ?_ _ | with_reducible refine Ext.alloc ?_ _ | with_reducible refine Ext.drew ?_ | with_reducible refine Ext.setCell ?_ (by (try dsimp only); first | omega | (simp; done) | (simp; omega)) _))).cell l0, (show Ext wr _ by (show Ext _ _; repeat (first | with_reducible (refine Hid.out ?_; assumption) | with_reducible exact Ext.refl _ | with_reducible refine Ext.ext ?_ _ | with_reducible refine Ext.alloc ?_ _ | with_reducible refine Ext.drew ?_ | with_reducible refine Ext.setCell ?_ (by (try dsimp only); first | omega | (simp; done) | (simp; omega)) _))).cell l1, (show Ext wr _ by (show Ext _ _; repeat (first | with_reducible (refine Hid.out ?_; assumption) | with_reducible exact Ext.refl _ | with_reducible refine Ext.ext ?_ _ | with_reducible refine Ext.alloc ?_ _ | with_reducible refine Ext.drew ?_ | with_reducible refine Ext.setCell ?_ (by (try dsimp only); first | omega | (simp; done) | (simp; omega)) _))).cell l2⟩) (fun hHeld => ?_)
        clear hOld hK K
        (try simp only [Act.put, List.setIfInBounds_toArray, List.set_cons_zero, List.set_cons_succ])
        refine take_met 7 (oi := ⟨_, _, _, _, _, _⟩) (v := ?_) (by kernel_rfl) rfl (by rfl) (fun _ _ _ h => h) (by assumption) ?_ ?_
        rotate_left 1
        · intro w hSw
          try dsimp only at hSw
          go_simp
          try with_reducible rfl
        (try simp only [Act.put, List.setIfInBounds_toArray, List.set_cons_zero, List.set_cons_succ])
        refine take_met 8 (oi := ⟨_, _, _, _, _, _⟩) (v := ?_) (by kernel_rfl) rfl (by rfl) (fun _ _ _ h => h) (by assumption) ?_ ?_
        rotate_left 1
        · intro w hSw
          try dsimp only at hSw
          go_simp
          try with_reducible rfl
        (try simp only [Act.put, List.setIfInBounds_toArray, List.set_cons_zero, List.set_cons_succ])
        refine take_met 9 (oi := ⟨_, _, _, _, _, _⟩) (v := ?_) (by kernel_rfl) rfl (by rfl) (fun _ _ _ h => h) (by assumption) ?_ ?_
        rotate_left 1
        · intro w hSw
          try dsimp only at hSw
          go_simp
          try with_reducible rfl
        (try simp only [Act.put, List.setIfInBounds_toArray, List.set_cons_zero, List.set_cons_succ])
        refine take_only 11 (oi := ⟨_, _, _, _, _, _⟩) (by kernel_rfl) rfl (fun K hK => ?_)
        go_simp
        have hOld := hHeld
        clear hHeld
        refine hK.out _ _ (by exact ⟨(show Ext wr _ by (show Ext _ _; repeat (first | with_reducible (refine Hid.out ?_; assumption) | with_reducible exact Ext.refl _ | with_reducible refine Ext.ext ?_ _ | with_reducible refine Ext.alloc ?_ _ | with_reducible refine Ext.drew ?_ | with_reducible refine Ext.setCell ?_ (by (try dsimp only); first | omega | (simp; done) | (simp; omega)) _))).cell l0, (show Ext wr _ by (show Ext _ _; repeat (first | with_reducible (refine Hid.out ?_; assumption) | with_reducible exact Ext.refl _ | with_reducible refine Ext.ext ?_ _ | with_reducible refine Ext.alloc ?_ _ | with_reducible refine Ext.drew ?_ | with_reducible refine Ext.setCell ?_ (by (try dsimp only); first | omega | (simp; done) | (simp; omega)) _))).cell l1, (show Ext wr _ by (show Ext _ _; repeat (first | with_reducible (refine Hid.out ?_; assumption) | with_reducible exact Ext.refl _ | with_reducible refine Ext.ext ?_ _ | with_reducible refine Ext.alloc ?_ _ | with_reducible refine Ext.drew ?_ | with_reducible refine Ext.setCell ?_ (by (try dsimp only); first | omega | (simp; done) | (simp; omega)) _))).cell l2⟩) (fun hHeld => ?_)
        clear hOld hK K
        (try simp only [Act.put, List.setIfInBounds_toArray, List.set_cons_zero, List.set_cons_succ])
        refine take_met 12 (oi := ⟨_, _, _, _, _, _⟩) (v := ?_) (by kernel_rfl) rfl (by rfl) (fun _ _ _ h => h) (by assumption) ?_ ?_
        rotate_left 1
        · intro w hSw
          try dsimp only at hSw
          go_simp
          try with_reducible rfl
        (try simp only [Act.put, List.setIfInBounds_toArray, List.set_cons_zero, List.set_cons_succ])
        refine wpAnyH_done (by kernel_rfl) ?_ _
        go_wp2_with fail
        go_meet
        exact ⟨_, rfl, rfl, by (show Blk _ _ _; repeat (first | with_reducible (refine Hid.out ?_; assumption) | with_reducible apply Blk.drew | with_reducible apply Blk.ext | ((with_reducible refine Blk.new _ _ rfl ?_); first | with_reducible rfl | focus (simp; done)) | ((with_reducible apply Blk.newE); first | with_reducible rfl | focus (simp; done)) | with_reducible apply Blk.alloc | with_reducible assumption | with_reducible apply Blk.setE | ((with_reducible refine Blk.other' ?_ ?_); first | omega | (simp; omega)) | (show List.set _ _ _ = _; exact rfl) | focus (show _ < List.length _; simp; done))), by (show Ext _ _; repeat (first | with_reducible (refine Hid.out ?_; assumption) | with_reducible exact Ext.refl _ | with_reducible refine Ext.ext ?_ _ | with_reducible refine Ext.alloc ?_ _ | with_reducible refine Ext.drew ?_ | with_reducible refine Ext.setCell ?_ (by (try dsimp only); first | omega | (simp; done) | (simp; omega)) _)), by omega⟩
      refine AllReadyH.cons (o := ⟨_, _, _, _, _, _⟩) rfl (fun K hK => ?_) AllReadyH.nil
      go_simp
      have hOld := hHeld
      clear hHeld
      refine hK.out _ _ (by exact ⟨(show Ext wr _ by (show Ext _ _; repeat (first | with_reducible (refine Hid.out ?_; assumption) | with_reducible exact Ext.refl _ | with_reducible refine Ext.ext ?_ _ | with_reducible refine Ext.alloc ?_ _ | with_reducible refine Ext.drew ?_ | with_reducible refine Ext.setCell ?_ (by (try dsimp only); first | omega | (simp; done) | (simp; omega)) _))).cell l0, (show Ext wr _ by (show Ext _ _; repeat (first | with_reducible (refine Hid.out ?_; assumption) | with_reducible exact Ext.refl _ | with_reducible refine Ext.ext ?_ _ | with_reducible refine Ext.alloc ?_ _ | with_reducible refine Ext.drew ?_ | with_reducible refine Ext.setCell ?_ (by (try dsimp only); first | omega | (simp; done) | (simp; omega)) _))).cell l1, (show Ext wr _ by (show Ext _ _; repeat (first | with_reducible (refine Hid.out ?_; assumption) | with_reducible exact Ext.refl _ | with_reducible refine Ext.ext ?_ _ | with_reducible refine Ext.alloc ?_ _ | with_reducible refine Ext.drew ?_ | with_reducible refine Ext.setCell ?_ (by (try dsimp only); first | omega | (simp; done) | (simp; omega)) _))).cell l2⟩) (fun hHeld => ?_)
      clear hOld hK K
      (try simp only [Act.put, List.setIfInBounds_toArray, List.set_cons_zero, List.set_cons_succ])
      refine take_only 3 (oi := ⟨_, _, _, _, _, _⟩) (by kernel_rfl) rfl (fun K hK => ?_)
      go_simp
      first
        | (go_at_call 16; refine (size_any t c b _ (HS.out.of (HEw.out.trans (by (show Ext _ _; repeat (first | with_reducible (refine Hid.out ?_; assumption) | with_reducible exact Ext.refl _ | with_reducible refine Ext.ext ?_ _ | with_reducible refine Ext.alloc ?_ _ | refine Ext.drew ?_ | refine Ext.drewN ?_ _ | exact Ext.refl _)))))).mono ?_; rintro e w' ⟨rfl, r4, rfl⟩; rw [← HZ.out])
      have hOld := hHeld
      clear hHeld
      refine hK.out _ _ (by exact ⟨(show Ext wr _ by (show Ext _ _; repeat (first | with_reducible (refine Hid.out ?_; assumption) | with_reducible exact Ext.refl _ | with_reducible refine Ext.ext ?_ _ | with_reducible refine Ext.alloc ?_ _ | with_reducible refine Ext.drew ?_ | with_reducible refine Ext.setCell ?_ (by (try dsimp only); first | omega | (simp; done) | (simp; omega)) _))).cell l0, (show Ext wr _ by (show Ext _ _; repeat (first | with_reducible (refine Hid.out ?_; assumption) | with_reducible exact Ext.refl _ | with_reducible refine Ext.ext ?_ _ | with_reducible refine Ext.alloc ?_ _ | with_reducible refine Ext.drew ?_ | with_reducible refine Ext.setCell ?_ (by (try dsimp only); first | omega | (simp; done) | (simp; omega)) _))).cell l1, (show Ext wr _ by (show Ext _ _; repeat (first | with_reducible (refine Hid.out ?_; assumption) | with_reducible exact Ext.refl _ | with_reducible refine Ext.ext ?_ _ | with_reducible refine Ext.alloc ?_ _ | with_reducible refine Ext.drew ?_ | with_reducible refine Ext.setCell ?_ (by (try dsimp only); first | omega | (simp; done) | (simp; omega)) _))).cell l2⟩) (fun hHeld => ?_)
      clear hOld hK K
      (try simp only [Act.put, List.setIfInBounds_toArray, List.set_cons_zero, List.set_cons_succ])
      refine take_met 4 (oi := ⟨_, _, _, _, _, _⟩) (v := ?_) (by kernel_rfl) rfl (by rfl) (fun _ _ _ h => h) (by assumption) ?_ ?_
      rotate_left 1
      · intro w hSw
        try dsimp only at hSw
        go_simp
        try with_reducible rfl
      (try simp only [Act.put, List.setIfInBounds_toArray, List.set_cons_zero, List.set_cons_succ])
      refine take_only 6 (oi := ⟨_, _, _, _, _, _⟩) (by kernel_rfl) rfl (fun K hK => ?_)
      go_simp
      first
        | (go_at_call 19; refine (logical_any t c b (p + j) (by omega) (by omega) L _ HLo.out _ (HS.out.of (HEw.out.trans (by (show Ext _ _; repeat (first | with_reducible (refine Hid.out ?_; assumption) | with_reducible exact Ext.refl _ | with_reducible refine Ext.ext ?_ _ | with_reducible refine Ext.alloc ?_ _ | refine Ext.drew ?_ | refine Ext.drewN ?_ _ | exact Ext.refl _))))) (HLs.out.of wdE_len (HEw.out.trans (by (show Ext _ _; repeat (first | with_reducible (refine Hid.out ?_; assumption) | with_reducible exact Ext.refl _ | with_reducible refine Ext.ext ?_ _ | with_reducible refine Ext.alloc ?_ _ | refine Ext.drew ?_ | refine Ext.drewN ?_ _ | exact Ext.refl _)))))).mono ?_; rintro y w' ⟨rfl, r5, rfl⟩; rw [HLx.out]; dsimp only)
      have hOld := hHeld
      clear hHeld
      refine hK.out _ _ (by exact ⟨(show Ext wr _ by (show Ext _ _; repeat (first | with_reducible (refine Hid.out ?_; assumption) | with_reducible exact Ext.refl _ | with_reducible refine Ext.ext ?_ _ | with_reducible refine Ext.alloc ?_ _ | with_reducible refine Ext.drew ?_ | with_reducible refine Ext.setCell ?_ (by (try dsimp only); first | omega | (simp; done) | (simp; omega)) _))).cell l0, (show Ext wr _ by (show Ext _ _; repeat (first | with_reducible (refine Hid.out ?_; assumption) | with_reducible exact Ext.refl _ | with_reducible refine Ext.ext ?_ _ | with_reducible refine Ext.alloc ?_ _ | with_reducible refine Ext.drew ?_ | with_reducible refine Ext.setCell ?_ (by (try dsimp only); first | omega | (simp; done) | (simp; omega)) _))).cell l1, (show Ext wr _ by (show Ext _ _; repeat (first | with_reducible (refine Hid.out ?_; assumption) | with_reducible exact Ext.refl _ | with_reducible refine Ext.ext ?_ _ | with_reducible refine Ext.alloc ?_ _ | with_reducible refine Ext.drew ?_ | with_reducible refine Ext.setCell ?_ (by (try dsimp only); first | omega | (simp; done) | (simp; omega)) _))).cell l2⟩) (fun hHeld => ?_)
      clear hOld hK K
      (try simp only [Act.put, List.setIfInBounds_toArray, List.set_cons_zero, List.set_cons_succ])
      refine take_met 7 (oi := ⟨_, _, _, _, _, _⟩) (v := ?_) (by kernel_rfl) rfl (by rfl) (fun _ _ _ h => h) (by assumption) ?_ ?_
      rotate_left 1
      · intro w hSw
        try dsimp only at hSw
        go_simp
        try with_reducible rfl
      (try simp only [Act.put, List.setIfInBounds_toArray, List.set_cons_zero, List.set_cons_succ])
      refine take_met 8 (oi := ⟨_, _, _, _, _, _⟩) (v := ?_) (by kernel_rfl) rfl (by rfl) (fun _ _ _ h => h) (by assumption) ?_ ?_
      rotate_left 1
      · intro w hSw
        try dsimp only at hSw
        go_simp
        try with_reducible rfl
      (try simp only [Act.put, List.setIfInBounds_toArray, List.set_cons_zero, List.set_cons_succ])
      refine take_met 9 (oi := ⟨_, _, _, _, _, _⟩) (v := ?_) (by kernel_rfl) rfl (by rfl) (fun _ _ _ h => h) (by assumption) ?_ ?_
      rotate_left 1
      · intro w hSw
        try dsimp only at hSw
        go_simp
        try with_reducible rfl
      (try simp only [Act.put, List.setIfInBounds_toArray, List.set_cons_zero, List.set_cons_succ])
      refine take_only 11 (oi := ⟨_, _, _, _, _, _⟩) (by kernel_rfl) rfl (fun K hK => ?_)
      go_simp
      have hOld := hHeld
      clear hHeld
      refine hK.out _ _ (by exact ⟨(show Ext wr _ by (show Ext _ _; repeat (first | with_reducible (refine Hid.out ?_; assumption) | with_reducible exact Ext.refl _ | with_reducible refine Ext.ext ?_ _ | with_reducible refine Ext.alloc ?_ _ | with_reducible refine Ext.drew ?_ | with_reducible refine Ext.setCell ?_ (by (try dsimp only); first | omega | (simp; done) | (simp; omega)) _))).cell l0, (show Ext wr _ by (show Ext _ _; repeat (first | with_reducible (refine Hid.out ?_; assumption) | with_reducible exact Ext.refl _ | with_reducible refine Ext.ext ?_ _ | with_reducible refine Ext.alloc ?_ _ | with_reducible refine Ext.drew ?_ | with_reducible refine Ext.setCell ?_ (by (try dsimp only); first | omega | (simp; done) | (simp; omega)) _))).cell l1, (show Ext wr _ by (show Ext _ _; repeat (first | with_reducible (refine Hid.out ?_; assumption) | with_reducible exact Ext.refl _ | with_reducible refine Ext.ext ?_ _ | with_reducible refine Ext.alloc ?_ _ | with_reducible refine Ext.drew ?_ | with_reducible refine Ext.setCell ?_ (by (try dsimp only); first | omega | (simp; done) | (simp; omega)) _))).cell l2⟩) (fun hHeld => ?_)
      clear hOld hK K
      (try simp only [Act.put, List.setIfInBounds_toArray, List.set_cons_zero, List.set_cons_succ])
      refine take_met 12 (oi := ⟨_, _, _, _, _, _⟩) (v := ?_) (by kernel_rfl) rfl (by rfl) (fun _ _ _ h => h) (by assumption) ?_ ?_
      rotate_left 1
      · intro w hSw
        try dsimp only at hSw
        go_simp
        try with_reducible rfl
      (try simp only [Act.put, List.setIfInBounds_toArray, List.set_cons_zero, List.set_cons_succ])
      refine wpAnyH_done (by kernel_rfl) ?_ _
      go_wp2_with fail
      go_meet
      exact ⟨_, rfl, rfl, by (show Blk _ _ _; repeat (first | with_reducible (refine Hid.out ?_; assumption) | with_reducible apply Blk.drew | with_reducible apply Blk.ext | ((with_reducible refine Blk.new _ _ rfl ?_); first | with_reducible rfl | focus (simp; done)) | ((with_reducible apply Blk.newE); first | with_reducible rfl | focus (simp; done)) | with_reducible apply Blk.alloc | with_reducible assumption | with_reducible apply Blk.setE | ((with_reducible refine Blk.other' ?_ ?_); first | omega | (simp; omega)) | (show List.set _ _ _ = _; exact rfl) | focus (show _ < List.length _; simp; done))), by (show Ext _ _; repeat (first | with_reducible (refine Hid.out ?_; assumption) | with_reducible exact Ext.refl _ | with_reducible refine Ext.ext ?_ _ | with_reducible refine Ext.alloc ?_ _ | with_reducible refine Ext.drew ?_ | with_reducible refine Ext.setCell ?_ (by (try dsimp only); first | omega | (simp; done) | (simp; omega)) _)), by omega⟩
    case rest =>
    obtain ⟨g2, rfl, rfl, hb2, hxw, hg2⟩ := hcut
    obtain ⟨y0, y1, y2⟩ := hb2.three
    have y4 := hb2.1
    have z0 := (HBz.out.of hxw).2.2 j _ (List.getElem?_eq_getElem (by rw [HZl.out]; exact hj3))
    have z1 := (HBz.out.of hxw).2.1 j
    have z2 := (HBz.out.of hxw).1
    have HX2 := hid hxw
    clear hxw hb2 q0 l0 l1 l2 l4
    go_wp2_with fail
    go_roundw
    case rel => exact ⟨j + 1, by omega, by go_num, hid (by rw [← HRj.out]; exact (HBz.out.of HX2.out).set j (by rw [HZl.out]; exact hj3) _), hid ((HG.out.trans (Grn.of_ext HX2.out)).setCell _ _)⟩
    case measure => simp [intOf]; omega
  · obtain rfl : j = 3 := by omega
    obtain ⟨z0, z1, z2⟩ := (show Blk wr nz [.int .i64 R0, .int .i64 R1, .int .i64 R2] from HBz.out).three
    have z4 := HBz.out.1
    have HBz3 := hid (show Blk wr nz [.int .i64 R0, .int .i64 R1, .int .i64 R2] from HBz.out)
    have u0 := HBrw.out.2.2 0 _ rfl
    have u1 := HBrw.out.2.2 1 _ rfl
    have u2 := HBrw.out.2.1 0
    have u3 := HBrw.out.2.1 1
    have u4 := HBrw.out.1
    by_cases hb : R0 < 0 ∨ R2 < 0 ∨ 255 < R2
    · have HR := hid (show q = (0, (0, 0), 5) by rw [HQ4.out]; unfold askV; rw [if_pos hb])
      have hcs : R0 < 0 ∨ (¬ R0 < 0 ∧ R2 < 0) ∨ (¬ R0 < 0 ∧ ¬ R2 < 0 ∧ 255 < R2) := by omega
      clear hb HQ4
      rcases hcs with h5 | ⟨h5, h6⟩ | ⟨h5, h6, h7⟩
      all_goals
        (repeat (first | go_values | go_skip | go_guarded | go_step | go_upon | (simp only [Int.not_lt, Int.not_le] at *; go_simp) | (go_ite <;> go_prune <;> (try go_simp))))
        exact bodyPost_ret (v := .tuple #[.int .i64 0, .agg #[.int .i64 0, .int .i64 0], .int .i64 5]) (by simp [results, Tryd.results17, go_sem, u0, u1, u2, u3, u4]) rfl (AskPost.mk HR.out (show Ext w _ by (show Ext _ _; repeat (first | with_reducible (refine Hid.out ?_; assumption) | with_reducible exact Ext.refl _ | with_reducible refine Ext.ext ?_ _ | with_reducible refine Ext.alloc ?_ _ | with_reducible refine Ext.drew ?_ | with_reducible refine Ext.setCell ?_ (by (try dsimp only); first | omega | (simp; done) | (simp; omega)) _))))
    · have HR := hid (show q = (R0, (R2, R1), 0) by rw [HQ4.out]; unfold askV; rw [if_neg hb])
      have h5 : ¬ R0 < 0 := by omega
      have h6 : ¬ R2 < 0 := by omega
      have h7 : ¬ 255 < R2 := by omega
      clear hb HQ4
      go_wp2_with fail
      refine wp_region_held_drew (S := fun w' => (w'.cell? ⟨nz, 0, none⟩ = some (.int .i64 R0) ∧ w'.cell? ⟨nz, 1, none⟩ = some (.int .i64 R1) ∧ w'.cell? ⟨nz, 2, none⟩ = some (.int .i64 R2))) (by kernel_rfl) (by exact Blk.three (show Blk _ nz [.int .i64 R0, .int .i64 R1, .int .i64 R2] by (show Blk _ _ _; repeat (first | with_reducible (refine Hid.out ?_; assumption) | with_reducible apply Blk.drew | with_reducible apply Blk.ext | ((with_reducible refine Blk.new _ _ rfl ?_); first | with_reducible rfl | focus (simp; done)) | ((with_reducible apply Blk.newE); first | with_reducible rfl | focus (simp; done)) | with_reducible apply Blk.alloc | with_reducible assumption | with_reducible apply Blk.setE | ((with_reducible refine Blk.other' ?_ ?_); first | omega | (simp; omega)) | (show List.set _ _ _ = _; exact rfl) | focus (show _ < List.length _; simp; done))))) (fun hHeld => ?_)
      refine take_met 0 (oi := ⟨_, _, _, _, _, _⟩) (v := ?_) (by kernel_rfl) rfl (by rfl) (fun _ _ _ h => h) (by assumption) ?_ ?_
      rotate_left 1
      · intro w hSw
        try dsimp only at hSw
        go_simp
        try with_reducible rfl
      (try simp only [Act.put, List.setIfInBounds_toArray, List.set_cons_zero, List.set_cons_succ])
      refine take_met 1 (oi := ⟨_, _, _, _, _, _⟩) (v := ?_) (by kernel_rfl) rfl (by rfl) (fun _ _ _ h => h) (by assumption) ?_ ?_
      rotate_left 1
      · intro w hSw
        try dsimp only at hSw
        go_simp
        try with_reducible rfl
      (try simp only [Act.put, List.setIfInBounds_toArray, List.set_cons_zero, List.set_cons_succ])
      refine take_met 2 (oi := ⟨_, _, _, _, _, _⟩) (v := ?_) (by kernel_rfl) rfl (by rfl) (fun _ _ _ h => h) (by assumption) ?_ ?_
      rotate_left 1
      · intro w hSw
        try dsimp only at hSw
        go_simp
        try with_reducible rfl
      (try simp only [Act.put, List.setIfInBounds_toArray, List.set_cons_zero, List.set_cons_succ])
      refine take_met 3 (oi := ⟨_, _, _, _, _, _⟩) (v := ?_) (by kernel_rfl) rfl (by rfl) (fun _ _ _ h => h) (by assumption) ?_ ?_
      rotate_left 1
      · intro w hSw
        try dsimp only at hSw
        go_simp
        try with_reducible rfl
      (try simp only [Act.put, List.setIfInBounds_toArray, List.set_cons_zero, List.set_cons_succ])
      refine take_met 4 (oi := ⟨_, _, _, _, _, _⟩) (v := ?_) (by kernel_rfl) rfl (by rfl) (fun _ _ _ h => h) (by assumption) ?_ ?_
      rotate_left 1
      · intro w hSw
        try dsimp only at hSw
        go_simp
        try with_reducible rfl
      (try simp only [Act.put, List.setIfInBounds_toArray, List.set_cons_zero, List.set_cons_succ])
      refine take_met 5 (oi := ⟨_, _, _, _, _, _⟩) (v := ?_) (by kernel_rfl) rfl (by rfl) (fun _ _ _ h => h) (by assumption) ?_ ?_
      rotate_left 1
      · intro w hSw
        try dsimp only at hSw
        go_simp
        try with_reducible rfl
      (try simp only [Act.put, List.setIfInBounds_toArray, List.set_cons_zero, List.set_cons_succ])
      refine take_met 6 (oi := ⟨_, _, _, _, _, _⟩) (v := ?_) (by kernel_rfl) rfl (by rfl) (fun _ _ _ h => h) (by assumption) ?_ ?_
      rotate_left 1
      · intro w hSw
        try dsimp only at hSw
        go_simp
        try with_reducible rfl
      (try simp only [Act.put, List.setIfInBounds_toArray, List.set_cons_zero, List.set_cons_succ])
      refine take_met 7 (oi := ⟨_, _, _, _, _, _⟩) (v := ?_) (by kernel_rfl) rfl (by rfl) (fun _ _ _ h => h) (by assumption) ?_ ?_
      rotate_left 1
      · intro w hSw
        try dsimp only at hSw
        go_simp
        try with_reducible rfl
      (try simp only [Act.put, List.setIfInBounds_toArray, List.set_cons_zero, List.set_cons_succ])
      refine take_only 8 (oi := ⟨_, _, _, _, _, _⟩) (by kernel_rfl) rfl (fun K hK => ?_)
      go_simp
      have hOld := hHeld
      clear hHeld
      refine hK.out _ _ (by exact Blk.three (show Blk _ nz [.int .i64 R0, .int .i64 R1, .int .i64 R2] by (show Blk _ _ _; repeat (first | with_reducible (refine Hid.out ?_; assumption) | with_reducible apply Blk.drew | with_reducible apply Blk.ext | ((with_reducible refine Blk.new _ _ rfl ?_); first | with_reducible rfl | focus (simp; done)) | ((with_reducible apply Blk.newE); first | with_reducible rfl | focus (simp; done)) | with_reducible apply Blk.alloc | with_reducible assumption | with_reducible apply Blk.setE | ((with_reducible refine Blk.other' ?_ ?_); first | omega | (simp; omega)) | (show List.set _ _ _ = _; exact rfl) | focus (show _ < List.length _; simp; done))))) (fun hHeld => ?_)
      clear hOld hK K
      (try simp only [Act.put, List.setIfInBounds_toArray, List.set_cons_zero, List.set_cons_succ])
      refine take_met 9 (oi := ⟨_, _, _, _, _, _⟩) (v := ?_) (by kernel_rfl) rfl (by rfl) (fun _ _ _ h => h) (by assumption) ?_ ?_
      rotate_left 1
      · intro w hSw
        try dsimp only at hSw
        go_simp
        try with_reducible rfl
      (try simp only [Act.put, List.setIfInBounds_toArray, List.set_cons_zero, List.set_cons_succ])
      refine wpAnyH_done (by kernel_rfl) ?_ _
      generalize hWe : World.setCell _ _ _ = We
      have hBe : Blk We nr [.int .i64 R2, .int .i64 R1] := by rw [← hWe]; exact ((HBrw.out.drew.set 0 (by simp) _).set 1 (by simp) _)
      have hXe : Ext w We := by rw [← hWe]; (show Ext _ _; repeat (first | with_reducible (refine Hid.out ?_; assumption) | with_reducible exact Ext.refl _ | with_reducible refine Ext.ext ?_ _ | with_reducible refine Ext.alloc ?_ _ | with_reducible refine Ext.drew ?_ | with_reducible refine Ext.setCell ?_ (by (try dsimp only); first | omega | (simp; done) | (simp; omega)) _))
      clear hWe
      have v0 := hBe.2.2 0 _ rfl
      have v1 := hBe.2.2 1 _ rfl
      have v4 := hBe.1
      (repeat (first | go_values | go_skip | go_guarded | go_step | go_upon | (simp only [Int.not_lt, Int.not_le] at *; go_simp) | (go_ite <;> go_prune <;> (try go_simp))))
      exact bodyPost_ret (v := .tuple #[.int .i64 R0, .agg #[.int .i64 R2, .int .i64 R1], .int .i64 0]) (by simp [results, Tryd.results17, go_sem, v0, v1, v4]) rfl (AskPost.mk HR.out (by first | exact hXe | exact Ext.drew hXe))

set_option maxRecDepth 100000 in
set_option maxHeartbeats 4000000 in
theorem happened_any (t c b x n : Int) (l : List Wd) (lv : Value) (hok : ∀ a ∈ l, WdOk a) (hll : l.length ≤ 1000000) (w : World) (hs : Szs w) (hl : Sl w 3 wdE lv l) :
    Calls Tryd.prog 18 #[.agg #[.int .i64 t, .int .i64 c, .int .i64 b], lv, .int .i64 x, .int .i64 n] w fun y w' =>
      y = .returned (.tuple #[.agg #[.int .i64 (hapV (askN t c b l x) n).1.1, .int .i64 (hapV (askN t c b l x) n).1.2], .bool (hapV (askN t c b l x) n).2.1, .int .i64 (hapV (askN t c b l x) n).2.2]) ∧ ∃ r, w' = ext w r := by
  have HS := hid hs
  have HL := hid hl
  obtain ⟨a, cp, rfl, _, _⟩ := hl
  obtain ⟨⟨q1, ⟨q2, q3⟩, q4⟩, hq⟩ : ∃ q, q = askN t c b l x := ⟨_, rfl⟩
  have HQ := hid hq
  rw [← hq]
  obtain ⟨R, hR⟩ : ∃ R, R = hapV (q1, (q2, q3), q4) n := ⟨_, rfl⟩
  rw [← hR]
  have HR0 := hid hR
  clear hs hq hR
  go_enter Tryd.func18, Tryd.ntmps18
  go_wp2_with fail
  refine (asked_any t c b x l _ hok hll _ (HS.out.of (by (show Ext _ _; repeat (first | with_reducible (refine Hid.out ?_; assumption) | with_reducible exact Ext.refl _ | with_reducible refine Ext.ext ?_ _ | with_reducible refine Ext.alloc ?_ _ | refine Ext.drew ?_ | refine Ext.drewN ?_ _ | exact Ext.refl _)))) (HL.out.of wdE_len (by (show Ext _ _; repeat (first | with_reducible (refine Hid.out ?_; assumption) | with_reducible exact Ext.refl _ | with_reducible refine Ext.ext ?_ _ | with_reducible refine Ext.alloc ?_ _ | refine Ext.drew ?_ | refine Ext.drewN ?_ _ | exact Ext.refl _))))).mono ?_
  rintro y w' ⟨rfl, r1, rfl⟩
  rw [← HQ.out]
  dsimp only
  by_cases h1 : q4 = 0
  rotate_left
  · have HR := hid (show R = ((0, 0), false, q4) by rw [HR0.out]; unfold hapV; rw [if_pos h1])
    have hb : (q4 != 0) = true := by simpa using h1
    clear h1 HR0
    (repeat (first | go_values | go_skip | go_guarded | go_step | go_upon | (simp only [Int.not_lt, Int.not_le] at *; go_simp) | (go_ite <;> go_prune <;> (try go_simp))))
    exact bodyPost_ret (v := .tuple #[.agg #[.int .i64 0, .int .i64 0], .bool false, .int .i64 q4]) (by simp [results, Tryd.results18, go_sem]) rfl ⟨by rw [HR.out], by (show Ext _ _; repeat (first | with_reducible (refine Hid.out ?_; assumption) | with_reducible exact Ext.refl _ | with_reducible refine Ext.ext ?_ _ | with_reducible refine Ext.alloc ?_ _ | with_reducible refine Ext.drew ?_ | with_reducible refine Ext.setCell ?_ (by (try dsimp only); first | omega | (simp; done) | (simp; omega)) _))⟩
  subst h1
  have HR1 := hid (show R = if n < 1 then ((0, 0), false, 4) else if n < q1 then ((0, 0), false, 13) else if q1 < n then ((0, 0), false, 0) else ((q2, q3), true, 0) by rw [HR0.out]; rfl)
  clear HR0
  have hcs : (n < 1 ∧ R = ((0, 0), false, 4)) ∨ (¬ n < 1 ∧ n < q1 ∧ R = ((0, 0), false, 13)) ∨ (¬ n < 1 ∧ ¬ n < q1 ∧ q1 < n ∧ R = ((0, 0), false, 0)) ∨ (¬ n < 1 ∧ ¬ n < q1 ∧ ¬ q1 < n ∧ R = ((q2, q3), true, 0)) := by
    by_cases h1 : n < 1
    · exact .inl ⟨h1, by rw [HR1.out, if_pos h1]⟩
    by_cases h2 : n < q1
    · exact .inr (.inl ⟨h1, h2, by rw [HR1.out, if_neg h1, if_pos h2]⟩)
    by_cases h3 : q1 < n
    · exact .inr (.inr (.inl ⟨h1, h2, h3, by rw [HR1.out, if_neg h1, if_neg h2, if_pos h3]⟩))
    · exact .inr (.inr (.inr ⟨h1, h2, h3, by rw [HR1.out, if_neg h1, if_neg h2, if_neg h3]⟩))
  clear HR1
  rcases hcs with ⟨h1, hR⟩ | ⟨h1, h2, hR⟩ | ⟨h1, h2, h3, hR⟩ | ⟨h1, h2, h3, hR⟩
  · have HR := hid hR
    clear hR
    (repeat (first | go_values | go_skip | go_guarded | go_step | go_upon | (simp only [Int.not_lt, Int.not_le] at *; go_simp) | (go_ite <;> go_prune <;> (try go_simp))))
    exact bodyPost_ret (v := .tuple #[.agg #[.int .i64 0, .int .i64 0], .bool false, .int .i64 4]) (by simp [results, Tryd.results18, go_sem]) rfl ⟨by rw [HR.out], by (show Ext _ _; repeat (first | with_reducible (refine Hid.out ?_; assumption) | with_reducible exact Ext.refl _ | with_reducible refine Ext.ext ?_ _ | with_reducible refine Ext.alloc ?_ _ | with_reducible refine Ext.drew ?_ | with_reducible refine Ext.setCell ?_ (by (try dsimp only); first | omega | (simp; done) | (simp; omega)) _))⟩
  · have HR := hid hR
    clear hR
    (repeat (first | go_values | go_skip | go_guarded | go_step | go_upon | (simp only [Int.not_lt, Int.not_le] at *; go_simp) | (go_ite <;> go_prune <;> (try go_simp))))
    exact bodyPost_ret (v := .tuple #[.agg #[.int .i64 0, .int .i64 0], .bool false, .int .i64 13]) (by simp [results, Tryd.results18, go_sem]) rfl ⟨by rw [HR.out], by (show Ext _ _; repeat (first | with_reducible (refine Hid.out ?_; assumption) | with_reducible exact Ext.refl _ | with_reducible refine Ext.ext ?_ _ | with_reducible refine Ext.alloc ?_ _ | with_reducible refine Ext.drew ?_ | with_reducible refine Ext.setCell ?_ (by (try dsimp only); first | omega | (simp; done) | (simp; omega)) _))⟩
  · have HR := hid hR
    clear hR
    (repeat (first | go_values | go_skip | go_guarded | go_step | go_upon | (simp only [Int.not_lt, Int.not_le] at *; go_simp) | (go_ite <;> go_prune <;> (try go_simp))))
    exact bodyPost_ret (v := .tuple #[.agg #[.int .i64 0, .int .i64 0], .bool false, .int .i64 0]) (by simp [results, Tryd.results18, go_sem]) rfl ⟨by rw [HR.out], by (show Ext _ _; repeat (first | with_reducible (refine Hid.out ?_; assumption) | with_reducible exact Ext.refl _ | with_reducible refine Ext.ext ?_ _ | with_reducible refine Ext.alloc ?_ _ | with_reducible refine Ext.drew ?_ | with_reducible refine Ext.setCell ?_ (by (try dsimp only); first | omega | (simp; done) | (simp; omega)) _))⟩
  · have HR := hid hR
    clear hR
    (repeat (first | go_values | go_skip | go_guarded | go_step | go_upon | (simp only [Int.not_lt, Int.not_le] at *; go_simp) | (go_ite <;> go_prune <;> (try go_simp))))
    exact bodyPost_ret (v := .tuple #[.agg #[.int .i64 q2, .int .i64 q3], .bool true, .int .i64 0]) (by simp [results, Tryd.results18, go_sem]) rfl ⟨by rw [HR.out], by (show Ext _ _; repeat (first | with_reducible (refine Hid.out ?_; assumption) | with_reducible exact Ext.refl _ | with_reducible refine Ext.ext ?_ _ | with_reducible refine Ext.alloc ?_ _ | with_reducible refine Ext.drew ?_ | with_reducible refine Ext.setCell ?_ (by (try dsimp only); first | omega | (simp; done) | (simp; omega)) _))⟩

end Go.Proofs.YtlijgheghodfeaaDoor
