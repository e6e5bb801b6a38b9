/- The walk of package desc's Read, from the descriptor's head on. -/
import Derived.Test.YtdpbcfjfnclpiaaDoorPk12
import Derived.Test.YtdpbcfjfnclpiaaDoorPk03
import Derived.Test.YtdpbcfjfnclpiaaDoorPk11
import Derived.Deep.DeepCutAuto
import Derived.Laws.Cover3
namespace Go.Proofs.YtdpbcfjfnclpiaaDoor
set_option linter.unusedSimpArgs false
set_option linter.unusedVariables false
open Go.RowKit
set_option maxRecDepth 100000 in
set_option maxHeartbeats 2000000 in
theorem read_bad (t c b who : Int) (hw1 : -9223372036854775808 ≤ who) (hw2 : who ≤ 9223372036854775807) (l : List Wd) (v : Value) (w : World) (hs : Szs w) (hv : Sl w 3 wdE v l)
 (hok : ∀ a ∈ l, WdOk a) (h1 : checkN t c b = 0) (h2 : ¬ (l.length : Int) < sizeN t c b) (h3 : (placeN t c b who).2 ≠ 0) (s1 s2 s3 n1 n2 n3 : Int) (hsx : l[(placeN t c b who).1.toNat]? = some (s1, s2, s3)) (hnx : l[(placeN t c b who).1.toNat + 1]? = some (n1, n2, n3)) (hhd : ¬ headB (s1, s2, s3) (n1, n2, n3) (placeN t c b who).2 = true) :
 Calls Tryd.prog 63 #[.agg #[.int .i64 t, .int .i64 c, .int .i64 b], v, .int .i64 who] w fun y w' => ReadPost w t c b l who y w' := by
 have HS := hid hs
 have HVl := hid hv
 obtain ⟨a, cp, rfl, ⟨hm, hlc⟩, _⟩ := hv
 have hroom := place_room h3
 obtain ⟨hpb1, hpb2⟩ := place_bd t c b who
 have HRd := hid (show readN t c b l who = _ by
  unfold readN; rw [if_neg (by rintro (h | h); exact h h1; exact h2 h), if_neg h3, hsx, hnx])
 dsimp only at HRd
 obtain ⟨⟨pa, pm⟩, hp⟩ : ∃ p, p = placeN t c b who := ⟨_, rfl⟩
 rw [← hp] at hroom h3 hsx hnx hpb1 hpb2 HRd hhd
 dsimp only at hroom h3 hsx hnx hpb1 hpb2 HRd hhd
 have HHd := hid hhd
 clear hhd
 have HP := hid hp
 obtain ⟨p, rfl⟩ := Int.eq_ofNat_of_zero_le hroom.1
 rw [Int.toNat_natCast] at hsx hnx
 simp only [Int.toNat_natCast] at HRd
 have hpl : p + 1 < l.length := (List.getElem?_eq_some_iff.1 hnx).1
 have hp9 : (p : Int) ≤ 30000 := hpb1.2
 obtain ⟨hm0, hm1⟩ := hpb2
 obtain ⟨g0, bb, oo, hab, hbl, hcs⟩ := Sl.at HVl.out hsx
 obtain ⟨g1, bb', oo', hab', _, hcn⟩ := Sl.at HVl.out hnx
 subst hab
 cases hab'
 have k0 := hcs 0 (by omega)
 have k1 := hcs 1 (by omega)
 have k2 := hcs 2 (by omega)
 have q0 := hcn 0 (by omega)
 have q1 := hcn 1 (by omega)
 have q2 := hcn 2 (by omega)
 simp [wdE] at k0 k1 k2 q0 q1 q2
 have hn0 := hok _ (List.mem_of_getElem? hsx)
 have HOk := hid hok
 clear hok
 have H1 := hid h1
 have H3 := hid h3
 have hbm : (pm == 0) = false := by simpa using h3
 obtain ⟨z, hz⟩ : ∃ z, z = sizeN t c b := ⟨_, rfl⟩
 rw [← hz] at h2 hroom
 have HZ := hid hz
 have HRoom := hid (show (p : Int) + 2 + 3 * pm ≤ (l.length : Int) by omega)
 have hi0 : (0 : Int) ≤ (p : Int) := by omega
 have hi1 : (p : Int) < (l.length : Int) := by omega
 have hi2 : (0 : Int) ≤ (p : Int) + 1 := by omega
 have hi3 : (p : Int) + 1 < (l.length : Int) := by omega
 have ht : ((p : Int) + 1).toNat = p + 1 := by omega
 have hw : IntKind.i64.wrap ((p : Int) + 1) = (p : Int) + 1 := IntWalk.i64_in _ (by omega)
 clear hcs hcn g0 g1 hsx hnx h1 h3 hp hz hroom hpb1
 go_enter Tryd.func63, Tryd.ntmps63
 go_wp2_with fail
 go_call (check_any t c b _ (HS.out.of (by (show Ext _ _; repeat first | (with_reducible first | (refine xH ?_; assumption) | exact xR _ | refine xX ?_ _ | refine xA ?_ _) | refine xD ?_ | refine xN ?_ _ | exact xR _)))) as e w' ⟨rfl, r1, rfl⟩
 rw [H1.out]
 go_wp2_with fail
 go_call (size_any t c b _ (HS.out.of (by (show Ext _ _; repeat first | (with_reducible first | (refine xH ?_; assumption) | exact xR _ | refine xX ?_ _ | refine xA ?_ _) | refine xD ?_ | refine xN ?_ _ | exact xR _)))) as e w' ⟨rfl, r2, rfl⟩
 rw [← HZ.out]
 go_wp2_with fail
 go_call (place_any t c b who hw1 hw2 _ (HS.out.of (by (show Ext _ _; repeat first | (with_reducible first | (refine xH ?_; assumption) | exact xR _ | refine xX ?_ _ | refine xA ?_ _) | refine xD ?_ | refine xN ?_ _ | exact xR _)))) as e w' ⟨rfl, r3, rfl⟩
 rw [← HP.out]
 go_upto_region 6 with fail
 go_cut [10, 11] (fun sx nx wx => ∃ g h : Nat, sx = .pointer (some ⟨g, 0, none⟩) ∧ nx = .pointer (some ⟨h, 0, none⟩) ∧ Blk wx g [.int .i64 s1, .int .u32 s2, .int .u32 s3] ∧ Blk wx h [.int .i64 n1, .int .u32 n2, .int .u32 n3] ∧ Blk wx w.heap.size [.int .i64 t, .int .i64 c, .int .i64 b] ∧ Blk wx (w.heap.size + 1) [.int .i64 0, .int .i64 0, .int .i64 0, .slice none 0 0] ∧ Ext w wx ∧ w.heap.size + 1 < g ∧ w.heap.size + 1 < h)
 case first =>
  refine wp_region_held_drew (S := fun w' => w'.cell? ⟨bb, oo + p * 3, none⟩ = some (.int .i64 s1) ∧ w'.cell? ⟨bb, oo + p * 3 + 1, none⟩ = some (.int .u32 s2) ∧ w'.cell? ⟨bb, oo + p * 3 + 2, none⟩ = some (.int .u32 s3) ∧ w'.cell? ⟨bb, oo + (p + 1) * 3, none⟩ = some (.int .i64 n1) ∧ w'.cell? ⟨bb, oo + (p + 1) * 3 + 1, none⟩ = some (.int .u32 n2) ∧ w'.cell? ⟨bb, oo + (p + 1) * 3 + 2, none⟩ = some (.int .u32 n3)) (by kernel_rfl) (by exact ⟨(show Ext w _ by (show Ext _ _; repeat with_reducible first | (refine xH ?_; assumption) | exact xR _ | refine xX ?_ _ | refine xA ?_ _ | refine xD ?_ | refine xS ?_ (by (try dsimp only); first | omega | (simp; done) | (simp; omega)) _)).cell k0, (show Ext w _ by (show Ext _ _; repeat with_reducible first | (refine xH ?_; assumption) | exact xR _ | refine xX ?_ _ | refine xA ?_ _ | refine xD ?_ | refine xS ?_ (by (try dsimp only); first | omega | (simp; done) | (simp; omega)) _)).cell k1, (show Ext w _ by (show Ext _ _; repeat with_reducible first | (refine xH ?_; assumption) | exact xR _ | refine xX ?_ _ | refine xA ?_ _ | refine xD ?_ | refine xS ?_ (by (try dsimp only); first | omega | (simp; done) | (simp; omega)) _)).cell k2, (show Ext w _ by (show Ext _ _; repeat with_reducible first | (refine xH ?_; assumption) | exact xR _ | refine xX ?_ _ | refine xA ?_ _ | refine xD ?_ | refine xS ?_ (by (try dsimp only); first | omega | (simp; done) | (simp; omega)) _)).cell q0, (show Ext w _ by (show Ext _ _; repeat with_reducible first | (refine xH ?_; assumption) | exact xR _ | refine xX ?_ _ | refine xA ?_ _ | refine xD ?_ | refine xS ?_ (by (try dsimp only); first | omega | (simp; done) | (simp; omega)) _)).cell q1, (show Ext w _ by (show Ext _ _; repeat with_reducible first | (refine xH ?_; assumption) | exact xR _ | refine xX ?_ _ | refine xA ?_ _ | refine xD ?_ | refine xS ?_ (by (try dsimp only); first | omega | (simp; done) | (simp; omega)) _)).cell q2⟩) (fun hHeld => ?_)
  refine take_met 0 (oi := ⟨_, _, _, _, _, _⟩) (v := ?_) (by kernel_rfl) rfl (by rfl) (fun _ _ _ h => h) (by assumption) ?_ ?_
  rotate_left 1
  ·intro w hSw
   try dsimp only at hSw
   go_simp
   try with_reducible rfl
  (try simp only [Act.put, pA, pB, pC])
  refine take_met 1 (oi := ⟨_, _, _, _, _, _⟩) (v := ?_) (by kernel_rfl) rfl (by rfl) (fun _ _ _ h => h) (by assumption) ?_ ?_
  rotate_left 1
  ·intro w hSw
   try dsimp only at hSw
   go_simp
   try with_reducible rfl
  (try simp only [Act.put, pA, pB, pC])
  refine take_met 2 (oi := ⟨_, _, _, _, _, _⟩) (v := ?_) (by kernel_rfl) rfl (by rfl) (fun _ _ _ h => h) (by assumption) ?_ ?_
  rotate_left 1
  ·intro w hSw
   try dsimp only at hSw
   go_simp
   try with_reducible rfl
  (try simp only [Act.put, pA, pB, pC])
  refine take_met 3 (oi := ⟨_, _, _, _, _, _⟩) (v := ?_) (by kernel_rfl) rfl (by rfl) (fun _ _ _ h => h) (by assumption) ?_ ?_
  rotate_left 1
  ·intro w hSw
   try dsimp only at hSw
   go_simp
   try with_reducible rfl
  (try simp only [Act.put, pA, pB, pC])
  refine take_met 4 (oi := ⟨_, _, _, _, _, _⟩) (v := ?_) (by kernel_rfl) rfl (by rfl) (fun _ _ _ h => h) (by assumption) ?_ ?_
  rotate_left 1
  ·intro w hSw
   try dsimp only at hSw
   go_simp
   try with_reducible rfl
  (try simp only [Act.put, pA, pB, pC])
  refine take_met 5 (oi := ⟨_, _, _, _, _, _⟩) (v := ?_) (by kernel_rfl) rfl (by rfl) (fun _ _ _ h => h) (by assumption) ?_ ?_
  rotate_left 1
  ·intro w hSw
   try dsimp only at hSw
   go_simp
   try with_reducible rfl
  (try simp only [Act.put, pA, pB, pC])
  refine take_met 6 (oi := ⟨_, _, _, _, _, _⟩) (v := ?_) (by kernel_rfl) rfl (by rfl) (fun _ _ _ h => h) (by assumption) ?_ ?_
  rotate_left 1
  ·intro w hSw
   try dsimp only at hSw
   go_simp
   try with_reducible rfl
  (try simp only [Act.put, pA, pB, pC])
  refine take_met 7 (oi := ⟨_, _, _, _, _, _⟩) (v := ?_) (by kernel_rfl) rfl (by rfl) (fun _ _ _ h => h) (by assumption) ?_ ?_
  rotate_left 1
  ·intro w hSw
   try dsimp only at hSw
   go_simp
   try with_reducible rfl
  (try simp only [Act.put, pA, pB, pC])
  refine take_met 8 (oi := ⟨_, _, _, _, _, _⟩) (v := ?_) (by kernel_rfl) rfl (by rfl) (fun _ _ _ h => h) (by assumption) ?_ ?_
  rotate_left 1
  ·intro w hSw
   try dsimp only at hSw
   go_simp
   try with_reducible rfl
  (try simp only [Act.put, pA, pB, pC])
  refine wpAnyH_ready (rs := [9, 10]) (by kernel_rfl) (by simp) ?_
  refine AllReadyH.cons (o := ⟨_, _, _, _, _, _⟩) rfl (fun K hK => ?_) ?_
  ·skip
   go_simp
   have hOld := hHeld
   clear hHeld
   refine hK.out _ _ (by exact ⟨(show Ext w _ by (show Ext _ _; repeat with_reducible first | (refine xH ?_; assumption) | exact xR _ | refine xX ?_ _ | refine xA ?_ _ | refine xD ?_ | refine xS ?_ (by (try dsimp only); first | omega | (simp; done) | (simp; omega)) _)).cell k0, (show Ext w _ by (show Ext _ _; repeat with_reducible first | (refine xH ?_; assumption) | exact xR _ | refine xX ?_ _ | refine xA ?_ _ | refine xD ?_ | refine xS ?_ (by (try dsimp only); first | omega | (simp; done) | (simp; omega)) _)).cell k1, (show Ext w _ by (show Ext _ _; repeat with_reducible first | (refine xH ?_; assumption) | exact xR _ | refine xX ?_ _ | refine xA ?_ _ | refine xD ?_ | refine xS ?_ (by (try dsimp only); first | omega | (simp; done) | (simp; omega)) _)).cell k2, (show Ext w _ by (show Ext _ _; repeat with_reducible first | (refine xH ?_; assumption) | exact xR _ | refine xX ?_ _ | refine xA ?_ _ | refine xD ?_ | refine xS ?_ (by (try dsimp only); first | omega | (simp; done) | (simp; omega)) _)).cell q0, (show Ext w _ by (show Ext _ _; repeat with_reducible first | (refine xH ?_; assumption) | exact xR _ | refine xX ?_ _ | refine xA ?_ _ | refine xD ?_ | refine xS ?_ (by (try dsimp only); first | omega | (simp; done) | (simp; omega)) _)).cell q1, (show Ext w _ by (show Ext _ _; repeat with_reducible first | (refine xH ?_; assumption) | exact xR _ | refine xX ?_ _ | refine xA ?_ _ | refine xD ?_ | refine xS ?_ (by (try dsimp only); first | omega | (simp; done) | (simp; omega)) _)).cell q2⟩) (fun hHeld => ?_)
   clear hOld hK K
   (try simp only [Act.put, pA, pB, pC])
   refine take_only 10 (oi := ⟨_, _, _, _, _, _⟩) (by kernel_rfl) rfl (fun K hK => ?_)
   go_simp
   have hOld := hHeld
   clear hHeld
   refine hK.out _ _ (by exact ⟨(show Ext w _ by (show Ext _ _; repeat with_reducible first | (refine xH ?_; assumption) | exact xR _ | refine xX ?_ _ | refine xA ?_ _ | refine xD ?_ | refine xS ?_ (by (try dsimp only); first | omega | (simp; done) | (simp; omega)) _)).cell k0, (show Ext w _ by (show Ext _ _; repeat with_reducible first | (refine xH ?_; assumption) | exact xR _ | refine xX ?_ _ | refine xA ?_ _ | refine xD ?_ | refine xS ?_ (by (try dsimp only); first | omega | (simp; done) | (simp; omega)) _)).cell k1, (show Ext w _ by (show Ext _ _; repeat with_reducible first | (refine xH ?_; assumption) | exact xR _ | refine xX ?_ _ | refine xA ?_ _ | refine xD ?_ | refine xS ?_ (by (try dsimp only); first | omega | (simp; done) | (simp; omega)) _)).cell k2, (show Ext w _ by (show Ext _ _; repeat with_reducible first | (refine xH ?_; assumption) | exact xR _ | refine xX ?_ _ | refine xA ?_ _ | refine xD ?_ | refine xS ?_ (by (try dsimp only); first | omega | (simp; done) | (simp; omega)) _)).cell q0, (show Ext w _ by (show Ext _ _; repeat with_reducible first | (refine xH ?_; assumption) | exact xR _ | refine xX ?_ _ | refine xA ?_ _ | refine xD ?_ | refine xS ?_ (by (try dsimp only); first | omega | (simp; done) | (simp; omega)) _)).cell q1, (show Ext w _ by (show Ext _ _; repeat with_reducible first | (refine xH ?_; assumption) | exact xR _ | refine xX ?_ _ | refine xA ?_ _ | refine xD ?_ | refine xS ?_ (by (try dsimp only); first | omega | (simp; done) | (simp; omega)) _)).cell q2⟩) (fun hHeld => ?_)
   clear hOld hK K
   (try simp only [Act.put, pA, pB, pC])
   refine take_only 11 (oi := ⟨_, _, _, _, _, _⟩) (by kernel_rfl) rfl (fun K hK => ?_)
   go_simp
   have hOld := hHeld
   clear hHeld
   refine hK.out _ _ (by exact ⟨(show Ext w _ by (show Ext _ _; repeat with_reducible first | (refine xH ?_; assumption) | exact xR _ | refine xX ?_ _ | refine xA ?_ _ | refine xD ?_ | refine xS ?_ (by (try dsimp only); first | omega | (simp; done) | (simp; omega)) _)).cell k0, (show Ext w _ by (show Ext _ _; repeat with_reducible first | (refine xH ?_; assumption) | exact xR _ | refine xX ?_ _ | refine xA ?_ _ | refine xD ?_ | refine xS ?_ (by (try dsimp only); first | omega | (simp; done) | (simp; omega)) _)).cell k1, (show Ext w _ by (show Ext _ _; repeat with_reducible first | (refine xH ?_; assumption) | exact xR _ | refine xX ?_ _ | refine xA ?_ _ | refine xD ?_ | refine xS ?_ (by (try dsimp only); first | omega | (simp; done) | (simp; omega)) _)).cell k2, (show Ext w _ by (show Ext _ _; repeat with_reducible first | (refine xH ?_; assumption) | exact xR _ | refine xX ?_ _ | refine xA ?_ _ | refine xD ?_ | refine xS ?_ (by (try dsimp only); first | omega | (simp; done) | (simp; omega)) _)).cell q0, (show Ext w _ by (show Ext _ _; repeat with_reducible first | (refine xH ?_; assumption) | exact xR _ | refine xX ?_ _ | refine xA ?_ _ | refine xD ?_ | refine xS ?_ (by (try dsimp only); first | omega | (simp; done) | (simp; omega)) _)).cell q1, (show Ext w _ by (show Ext _ _; repeat with_reducible first | (refine xH ?_; assumption) | exact xR _ | refine xX ?_ _ | refine xA ?_ _ | refine xD ?_ | refine xS ?_ (by (try dsimp only); first | omega | (simp; done) | (simp; omega)) _)).cell q2⟩) (fun hHeld => ?_)
   clear hOld hK K
   (try simp only [Act.put, pA, pB, pC])
   refine take_only 12 (oi := ⟨_, _, _, _, _, _⟩) (by kernel_rfl) rfl (fun K hK => ?_)
   go_simp
   have hOld := hHeld
   clear hHeld
   refine hK.out _ _ (by exact ⟨(show Ext w _ by (show Ext _ _; repeat with_reducible first | (refine xH ?_; assumption) | exact xR _ | refine xX ?_ _ | refine xA ?_ _ | refine xD ?_ | refine xS ?_ (by (try dsimp only); first | omega | (simp; done) | (simp; omega)) _)).cell k0, (show Ext w _ by (show Ext _ _; repeat with_reducible first | (refine xH ?_; assumption) | exact xR _ | refine xX ?_ _ | refine xA ?_ _ | refine xD ?_ | refine xS ?_ (by (try dsimp only); first | omega | (simp; done) | (simp; omega)) _)).cell k1, (show Ext w _ by (show Ext _ _; repeat with_reducible first | (refine xH ?_; assumption) | exact xR _ | refine xX ?_ _ | refine xA ?_ _ | refine xD ?_ | refine xS ?_ (by (try dsimp only); first | omega | (simp; done) | (simp; omega)) _)).cell k2, (show Ext w _ by (show Ext _ _; repeat with_reducible first | (refine xH ?_; assumption) | exact xR _ | refine xX ?_ _ | refine xA ?_ _ | refine xD ?_ | refine xS ?_ (by (try dsimp only); first | omega | (simp; done) | (simp; omega)) _)).cell q0, (show Ext w _ by (show Ext _ _; repeat with_reducible first | (refine xH ?_; assumption) | exact xR _ | refine xX ?_ _ | refine xA ?_ _ | refine xD ?_ | refine xS ?_ (by (try dsimp only); first | omega | (simp; done) | (simp; omega)) _)).cell q1, (show Ext w _ by (show Ext _ _; repeat with_reducible first | (refine xH ?_; assumption) | exact xR _ | refine xX ?_ _ | refine xA ?_ _ | refine xD ?_ | refine xS ?_ (by (try dsimp only); first | omega | (simp; done) | (simp; omega)) _)).cell q2⟩) (fun hHeld => ?_)
   clear hOld hK K
   (try simp only [Act.put, pA, pB, pC])
   refine wpAnyH_done (by kernel_rfl) ?_ _
   go_wp2_with fail
   go_meet
   exact ⟨_, _, rfl, rfl, by (show Blk _ _ _; repeat first | (with_reducible first | (refine xH ?_; assumption) | refine bD ?_ | refine bX ?_ _) | (with_reducible refine bN _ _ rfl ?_; first | with_reducible rfl | (simp; done)) | (with_reducible first | refine bA ?_ _ | assumption | apply bS) | (with_reducible refine bO ?_ ?_; first | omega | (simp; omega)) | (show List.set _ _ _ = _; exact rfl) | (show _ < List.length _; simp; done)), by (show Blk _ _ _; repeat first | (with_reducible first | (refine xH ?_; assumption) | refine bD ?_ | refine bX ?_ _) | (with_reducible refine bN _ _ rfl ?_; first | with_reducible rfl | (simp; done)) | (with_reducible first | refine bA ?_ _ | assumption | apply bS) | (with_reducible refine bO ?_ ?_; first | omega | (simp; omega)) | (show List.set _ _ _ = _; exact rfl) | (show _ < List.length _; simp; done)), by (show Blk _ _ _; repeat first | (with_reducible first | (refine xH ?_; assumption) | refine bD ?_ | refine bX ?_ _) | (with_reducible refine bN _ _ rfl ?_; first | with_reducible rfl | (simp; done)) | (with_reducible first | refine bA ?_ _ | assumption | apply bS) | (with_reducible refine bO ?_ ?_; first | omega | (simp; omega)) | (show List.set _ _ _ = _; exact rfl) | (show _ < List.length _; simp; done)), by (show Blk _ _ _; repeat first | (with_reducible first | (refine xH ?_; assumption) | refine bD ?_ | refine bX ?_ _) | (with_reducible refine bN _ _ rfl ?_; first | with_reducible rfl | (simp; done)) | (with_reducible first | refine bA ?_ _ | assumption | apply bS) | (with_reducible refine bO ?_ ?_; first | omega | (simp; omega)) | (show List.set _ _ _ = _; exact rfl) | (show _ < List.length _; simp; done)), by (show Ext _ _; repeat first | (with_reducible first | (refine xH ?_; assumption) | exact xR _ | refine xX ?_ _ | refine xA ?_ _) | refine xD ?_ | refine xN ?_ _ | exact xR _), by omega, by omega⟩
  refine AllReadyH.cons (o := ⟨_, _, _, _, _, _⟩) rfl (fun K hK => ?_) AllReadyH.nil
  go_simp
  have hOld := hHeld
  clear hHeld
  refine hK.out _ _ (by exact ⟨(show Ext w _ by (show Ext _ _; repeat with_reducible first | (refine xH ?_; assumption) | exact xR _ | refine xX ?_ _ | refine xA ?_ _ | refine xD ?_ | refine xS ?_ (by (try dsimp only); first | omega | (simp; done) | (simp; omega)) _)).cell k0, (show Ext w _ by (show Ext _ _; repeat with_reducible first | (refine xH ?_; assumption) | exact xR _ | refine xX ?_ _ | refine xA ?_ _ | refine xD ?_ | refine xS ?_ (by (try dsimp only); first | omega | (simp; done) | (simp; omega)) _)).cell k1, (show Ext w _ by (show Ext _ _; repeat with_reducible first | (refine xH ?_; assumption) | exact xR _ | refine xX ?_ _ | refine xA ?_ _ | refine xD ?_ | refine xS ?_ (by (try dsimp only); first | omega | (simp; done) | (simp; omega)) _)).cell k2, (show Ext w _ by (show Ext _ _; repeat with_reducible first | (refine xH ?_; assumption) | exact xR _ | refine xX ?_ _ | refine xA ?_ _ | refine xD ?_ | refine xS ?_ (by (try dsimp only); first | omega | (simp; done) | (simp; omega)) _)).cell q0, (show Ext w _ by (show Ext _ _; repeat with_reducible first | (refine xH ?_; assumption) | exact xR _ | refine xX ?_ _ | refine xA ?_ _ | refine xD ?_ | refine xS ?_ (by (try dsimp only); first | omega | (simp; done) | (simp; omega)) _)).cell q1, (show Ext w _ by (show Ext _ _; repeat with_reducible first | (refine xH ?_; assumption) | exact xR _ | refine xX ?_ _ | refine xA ?_ _ | refine xD ?_ | refine xS ?_ (by (try dsimp only); first | omega | (simp; done) | (simp; omega)) _)).cell q2⟩) (fun hHeld => ?_)
  clear hOld hK K
  (try simp only [Act.put, pA, pB, pC])
  refine take_only 9 (oi := ⟨_, _, _, _, _, _⟩) (by kernel_rfl) rfl (fun K hK => ?_)
  go_simp
  have hOld := hHeld
  clear hHeld
  refine hK.out _ _ (by exact ⟨(show Ext w _ by (show Ext _ _; repeat with_reducible first | (refine xH ?_; assumption) | exact xR _ | refine xX ?_ _ | refine xA ?_ _ | refine xD ?_ | refine xS ?_ (by (try dsimp only); first | omega | (simp; done) | (simp; omega)) _)).cell k0, (show Ext w _ by (show Ext _ _; repeat with_reducible first | (refine xH ?_; assumption) | exact xR _ | refine xX ?_ _ | refine xA ?_ _ | refine xD ?_ | refine xS ?_ (by (try dsimp only); first | omega | (simp; done) | (simp; omega)) _)).cell k1, (show Ext w _ by (show Ext _ _; repeat with_reducible first | (refine xH ?_; assumption) | exact xR _ | refine xX ?_ _ | refine xA ?_ _ | refine xD ?_ | refine xS ?_ (by (try dsimp only); first | omega | (simp; done) | (simp; omega)) _)).cell k2, (show Ext w _ by (show Ext _ _; repeat with_reducible first | (refine xH ?_; assumption) | exact xR _ | refine xX ?_ _ | refine xA ?_ _ | refine xD ?_ | refine xS ?_ (by (try dsimp only); first | omega | (simp; done) | (simp; omega)) _)).cell q0, (show Ext w _ by (show Ext _ _; repeat with_reducible first | (refine xH ?_; assumption) | exact xR _ | refine xX ?_ _ | refine xA ?_ _ | refine xD ?_ | refine xS ?_ (by (try dsimp only); first | omega | (simp; done) | (simp; omega)) _)).cell q1, (show Ext w _ by (show Ext _ _; repeat with_reducible first | (refine xH ?_; assumption) | exact xR _ | refine xX ?_ _ | refine xA ?_ _ | refine xD ?_ | refine xS ?_ (by (try dsimp only); first | omega | (simp; done) | (simp; omega)) _)).cell q2⟩) (fun hHeld => ?_)
  clear hOld hK K
  (try simp only [Act.put, pA, pB, pC])
  refine take_only 11 (oi := ⟨_, _, _, _, _, _⟩) (by kernel_rfl) rfl (fun K hK => ?_)
  go_simp
  have hOld := hHeld
  clear hHeld
  refine hK.out _ _ (by exact ⟨(show Ext w _ by (show Ext _ _; repeat with_reducible first | (refine xH ?_; assumption) | exact xR _ | refine xX ?_ _ | refine xA ?_ _ | refine xD ?_ | refine xS ?_ (by (try dsimp only); first | omega | (simp; done) | (simp; omega)) _)).cell k0, (show Ext w _ by (show Ext _ _; repeat with_reducible first | (refine xH ?_; assumption) | exact xR _ | refine xX ?_ _ | refine xA ?_ _ | refine xD ?_ | refine xS ?_ (by (try dsimp only); first | omega | (simp; done) | (simp; omega)) _)).cell k1, (show Ext w _ by (show Ext _ _; repeat with_reducible first | (refine xH ?_; assumption) | exact xR _ | refine xX ?_ _ | refine xA ?_ _ | refine xD ?_ | refine xS ?_ (by (try dsimp only); first | omega | (simp; done) | (simp; omega)) _)).cell k2, (show Ext w _ by (show Ext _ _; repeat with_reducible first | (refine xH ?_; assumption) | exact xR _ | refine xX ?_ _ | refine xA ?_ _ | refine xD ?_ | refine xS ?_ (by (try dsimp only); first | omega | (simp; done) | (simp; omega)) _)).cell q0, (show Ext w _ by (show Ext _ _; repeat with_reducible first | (refine xH ?_; assumption) | exact xR _ | refine xX ?_ _ | refine xA ?_ _ | refine xD ?_ | refine xS ?_ (by (try dsimp only); first | omega | (simp; done) | (simp; omega)) _)).cell q1, (show Ext w _ by (show Ext _ _; repeat with_reducible first | (refine xH ?_; assumption) | exact xR _ | refine xX ?_ _ | refine xA ?_ _ | refine xD ?_ | refine xS ?_ (by (try dsimp only); first | omega | (simp; done) | (simp; omega)) _)).cell q2⟩) (fun hHeld => ?_)
  clear hOld hK K
  (try simp only [Act.put, pA, pB, pC])
  refine take_only 12 (oi := ⟨_, _, _, _, _, _⟩) (by kernel_rfl) rfl (fun K hK => ?_)
  go_simp
  have hOld := hHeld
  clear hHeld
  refine hK.out _ _ (by exact ⟨(show Ext w _ by (show Ext _ _; repeat with_reducible first | (refine xH ?_; assumption) | exact xR _ | refine xX ?_ _ | refine xA ?_ _ | refine xD ?_ | refine xS ?_ (by (try dsimp only); first | omega | (simp; done) | (simp; omega)) _)).cell k0, (show Ext w _ by (show Ext _ _; repeat with_reducible first | (refine xH ?_; assumption) | exact xR _ | refine xX ?_ _ | refine xA ?_ _ | refine xD ?_ | refine xS ?_ (by (try dsimp only); first | omega | (simp; done) | (simp; omega)) _)).cell k1, (show Ext w _ by (show Ext _ _; repeat with_reducible first | (refine xH ?_; assumption) | exact xR _ | refine xX ?_ _ | refine xA ?_ _ | refine xD ?_ | refine xS ?_ (by (try dsimp only); first | omega | (simp; done) | (simp; omega)) _)).cell k2, (show Ext w _ by (show Ext _ _; repeat with_reducible first | (refine xH ?_; assumption) | exact xR _ | refine xX ?_ _ | refine xA ?_ _ | refine xD ?_ | refine xS ?_ (by (try dsimp only); first | omega | (simp; done) | (simp; omega)) _)).cell q0, (show Ext w _ by (show Ext _ _; repeat with_reducible first | (refine xH ?_; assumption) | exact xR _ | refine xX ?_ _ | refine xA ?_ _ | refine xD ?_ | refine xS ?_ (by (try dsimp only); first | omega | (simp; done) | (simp; omega)) _)).cell q1, (show Ext w _ by (show Ext _ _; repeat with_reducible first | (refine xH ?_; assumption) | exact xR _ | refine xX ?_ _ | refine xA ?_ _ | refine xD ?_ | refine xS ?_ (by (try dsimp only); first | omega | (simp; done) | (simp; omega)) _)).cell q2⟩) (fun hHeld => ?_)
  clear hOld hK K
  (try simp only [Act.put, pA, pB, pC])
  refine wpAnyH_done (by kernel_rfl) ?_ _
  go_wp2_with fail
  go_meet
  exact ⟨_, _, rfl, rfl, by (show Blk _ _ _; repeat first | (with_reducible first | (refine xH ?_; assumption) | refine bD ?_ | refine bX ?_ _) | (with_reducible refine bN _ _ rfl ?_; first | with_reducible rfl | (simp; done)) | (with_reducible first | refine bA ?_ _ | assumption | apply bS) | (with_reducible refine bO ?_ ?_; first | omega | (simp; omega)) | (show List.set _ _ _ = _; exact rfl) | (show _ < List.length _; simp; done)), by (show Blk _ _ _; repeat first | (with_reducible first | (refine xH ?_; assumption) | refine bD ?_ | refine bX ?_ _) | (with_reducible refine bN _ _ rfl ?_; first | with_reducible rfl | (simp; done)) | (with_reducible first | refine bA ?_ _ | assumption | apply bS) | (with_reducible refine bO ?_ ?_; first | omega | (simp; omega)) | (show List.set _ _ _ = _; exact rfl) | (show _ < List.length _; simp; done)), by (show Blk _ _ _; repeat first | (with_reducible first | (refine xH ?_; assumption) | refine bD ?_ | refine bX ?_ _) | (with_reducible refine bN _ _ rfl ?_; first | with_reducible rfl | (simp; done)) | (with_reducible first | refine bA ?_ _ | assumption | apply bS) | (with_reducible refine bO ?_ ?_; first | omega | (simp; omega)) | (show List.set _ _ _ = _; exact rfl) | (show _ < List.length _; simp; done)), by (show Blk _ _ _; repeat first | (with_reducible first | (refine xH ?_; assumption) | refine bD ?_ | refine bX ?_ _) | (with_reducible refine bN _ _ rfl ?_; first | with_reducible rfl | (simp; done)) | (with_reducible first | refine bA ?_ _ | assumption | apply bS) | (with_reducible refine bO ?_ ?_; first | omega | (simp; omega)) | (show List.set _ _ _ = _; exact rfl) | (show _ < List.length _; simp; done)), by (show Ext _ _; repeat first | (with_reducible first | (refine xH ?_; assumption) | exact xR _ | refine xX ?_ _ | refine xA ?_ _) | refine xD ?_ | refine xN ?_ _ | exact xR _), by omega, by omega⟩
 case rest =>
  obtain ⟨g, h, rfl, rfl, hbg, hbh, hb3, hb6, hex, hlg, hlh⟩ := hcut
  clear hi0 hi1 hi2 hi3 ht hw k0 k1 k2 q0 q1 q2
  have a0 := hbg.2.2 0 _ rfl
  have a1 := hbg.2.2 1 _ rfl
  have a2 := hbg.2.2 2 _ rfl
  have c0 := hbh.2.2 0 _ rfl
  have c1 := hbh.2.2 1 _ rfl
  have c2 := hbh.2.2 2 _ rfl
  have e0 := hb6.2.2 0 _ rfl
  have e1 := hb6.2.2 1 _ rfl
  have e2 := hb6.2.2 2 _ rfl
  have e3 := hb6.2.2 3 _ rfl
  have e4 := hb6.2.1 0
  have e5 := hb6.2.1 1
  have e6 := hb6.2.1 2
  have e7 := hb6.2.1 3
  have g1 := hbg.1
  have g2 := hbh.1
  have g3 := hb3.1
  have g4 := hb6.1
  have hna := neq_word n1 n2 n3 n1 0 0
  have hga := eq_guard_word
  have HB6 := hid hb6
  have HB3 := hid hb3
  have HEx := hid hex
  have HNa := hid hna
  clear hb3 hb6 hbg hbh hex hna
  have HN := hid hn0
  clear hn0
  have hhd := HHd.out
  have HR := hid (show readN t c b l who = (5, none) by rw [HRd.out, if_neg hhd])
  clear HRd
  have hcs : s1 < 0 ∨ (¬ s1 < 0 ∧ 3 < s1) ∨ (¬ s1 < 0 ∧ ¬ 3 < s1 ∧ s3 ≠ 0) ∨ (¬ s1 < 0 ∧ ¬ 3 < s1 ∧ s3 = 0 ∧ n1 < 1) ∨ (¬ s1 < 0 ∧ ¬ 3 < s1 ∧ s3 = 0 ∧ ¬ n1 < 1 ∧ pm < n1) ∨ (¬ s1 < 0 ∧ ¬ 3 < s1 ∧ s3 = 0 ∧ ¬ n1 < 1 ∧ ¬ pm < n1 ∧ wdB (n1, n2, n3) (n1, 0, 0) = false) := by
   cases hwd : wdB (n1, n2, n3) (n1, 0, 0)
   ·by_cases z1 : s1 < 0 <;> by_cases z2 : 3 < s1 <;> by_cases z3 : s3 = 0 <;> by_cases z4 : n1 < 1 <;> by_cases z5 : pm < n1 <;> simp [z1, z2, z3, z4, z5]
   ·have : ¬ (0 ≤ s1 ∧ s1 ≤ 3 ∧ s3 = 0 ∧ 1 ≤ n1 ∧ n1 ≤ pm) := by
     rintro ⟨y1, y2, y3, y4, y5⟩
     exact hhd (by simp [headB, y1, y2, y3, y4, y5, hwd])
    by_cases z1 : s1 < 0 <;> by_cases z2 : 3 < s1 <;> by_cases z3 : s3 = 0 <;> by_cases z4 : n1 < 1 <;> by_cases z5 : pm < n1 <;> simp [z1, z2, z3, z4, z5]
    omega
  clear hhd
  have hE : ReadPost w t c b l who (.returned (.tuple #[.agg #[.int .i64 0, .int .i64 0, .int .i64 0, .slice none 0 0], .int .i64 5])) = fun w' => ∃ r, w' = ext w r := by
   funext w'
   unfold ReadPost
   rw [HR.out]
   simp
  rcases hcs with z | ⟨z, z1⟩ | ⟨z, z1, z2⟩ | ⟨z, z1, z2, z3⟩ | ⟨z, z1, z2, z3, z4⟩ | ⟨z, z1, z2, z3, z4, z5⟩
  ·(repeat (first | go_values | go_skip | go_guarded | go_step | go_upon | (simp only [Int.not_lt, Int.not_le] at *; go_simp) | (go_ite <;> go_prune <;> (try go_simp))))
   exact bodyPost_ret (v := .tuple #[.agg #[.int .i64 0, .int .i64 0, .int .i64 0, .slice none 0 0], .int .i64 5]) (by simp [results, Tryd.results63, go_sem, e0, e1, e2, e3]) rfl (by rw [hE]; (show Ext _ _; repeat with_reducible first | (refine xH ?_; assumption) | exact xR _ | refine xX ?_ _ | refine xA ?_ _ | refine xD ?_ | refine xS ?_ (by (try dsimp only); first | omega | (simp; done) | (simp; omega)) _))
  ·(repeat (first | go_values | go_skip | go_guarded | go_step | go_upon | (simp only [Int.not_lt, Int.not_le] at *; go_simp) | (go_ite <;> go_prune <;> (try go_simp))))
   exact bodyPost_ret (v := .tuple #[.agg #[.int .i64 0, .int .i64 0, .int .i64 0, .slice none 0 0], .int .i64 5]) (by simp [results, Tryd.results63, go_sem, e0, e1, e2, e3]) rfl (by rw [hE]; (show Ext _ _; repeat with_reducible first | (refine xH ?_; assumption) | exact xR _ | refine xX ?_ _ | refine xA ?_ _ | refine xD ?_ | refine xS ?_ (by (try dsimp only); first | omega | (simp; done) | (simp; omega)) _))
  ·have z4 : (s3 != 0) = true := by simpa using z2
   clear z2
   (repeat (first | go_values | go_skip | go_guarded | go_step | go_upon | (simp only [Int.not_lt, Int.not_le] at *; go_simp) | (go_ite <;> go_prune <;> (try go_simp))))
   exact bodyPost_ret (v := .tuple #[.agg #[.int .i64 0, .int .i64 0, .int .i64 0, .slice none 0 0], .int .i64 5]) (by simp [results, Tryd.results63, go_sem, e0, e1, e2, e3]) rfl (by rw [hE]; (show Ext _ _; repeat with_reducible first | (refine xH ?_; assumption) | exact xR _ | refine xX ?_ _ | refine xA ?_ _ | refine xD ?_ | refine xS ?_ (by (try dsimp only); first | omega | (simp; done) | (simp; omega)) _))
  ·subst z2
   (repeat (first | go_values | go_skip | go_guarded | go_step | go_upon | (simp only [Int.not_lt, Int.not_le] at *; go_simp) | (go_ite <;> go_prune <;> (try go_simp))))
   exact bodyPost_ret (v := .tuple #[.agg #[.int .i64 0, .int .i64 0, .int .i64 0, .slice none 0 0], .int .i64 5]) (by simp [results, Tryd.results63, go_sem, e0, e1, e2, e3]) rfl (by rw [hE]; (show Ext _ _; repeat with_reducible first | (refine xH ?_; assumption) | exact xR _ | refine xX ?_ _ | refine xA ?_ _ | refine xD ?_ | refine xS ?_ (by (try dsimp only); first | omega | (simp; done) | (simp; omega)) _))
  ·subst z2
   (repeat (first | go_values | go_skip | go_guarded | go_step | go_upon | (simp only [Int.not_lt, Int.not_le] at *; go_simp) | (go_ite <;> go_prune <;> (try go_simp))))
   exact bodyPost_ret (v := .tuple #[.agg #[.int .i64 0, .int .i64 0, .int .i64 0, .slice none 0 0], .int .i64 5]) (by simp [results, Tryd.results63, go_sem, e0, e1, e2, e3]) rfl (by rw [hE]; (show Ext _ _; repeat with_reducible first | (refine xH ?_; assumption) | exact xR _ | refine xX ?_ _ | refine xA ?_ _ | refine xD ?_ | refine xS ?_ (by (try dsimp only); first | omega | (simp; done) | (simp; omega)) _))
  ·subst z2
   have hne := HNa.out
   rw [z5] at hne
   clear z5
   (repeat (first | go_values | go_skip | go_guarded | go_step | go_upon | (simp only [Int.not_lt, Int.not_le] at *; go_simp) | (go_ite <;> go_prune <;> (try go_simp))))
   exact bodyPost_ret (v := .tuple #[.agg #[.int .i64 0, .int .i64 0, .int .i64 0, .slice none 0 0], .int .i64 5]) (by simp [results, Tryd.results63, go_sem, e0, e1, e2, e3]) rfl (by rw [hE]; (show Ext _ _; repeat with_reducible first | (refine xH ?_; assumption) | exact xR _ | refine xX ?_ _ | refine xA ?_ _ | refine xD ?_ | refine xS ?_ (by (try dsimp only); first | omega | (simp; done) | (simp; omega)) _))
end Go.Proofs.YtdpbcfjfnclpiaaDoor
