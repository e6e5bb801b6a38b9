/- The walk of the statement DescPacks. -/
import Derived.Test.YtojcojghnhibmaaDoorAwkB
namespace Go.Proofs.YtojcojghnhibmaaDoor
open Go.RowKit

theorem unpack_pack (loc val ver new : Int) (wr : Bool) : unpackB (loc, (if wr = true then 1 else 0), 0) (val, ver, 0) (new, 0, 0) = decide (0 ≤ loc ∧ loc < 4096) := by
  cases wr <;> simp [unpackB]
theorem enB_self (x : En) : enB x x = true := (enB_eq x x).2 rfl

set_option maxRecDepth 100000 in
set_option maxHeartbeats 4000000 in
theorem packs_any (loc val ver ref new : Int) (wr : Bool) (x1 x2 x3 y1 y2 y3 z1 z2 z3 : Int) (hx2 : 0 ≤ x2) (w : World) (hs : Szs w) :
    Calls Tryd.prog 4 #[.agg #[.int .i64 loc, .int .i64 val, .int .u32 ver, .int .u32 ref, .int .i64 new, .bool wr], .agg #[.int .i64 x1, .int .u32 x2, .int .u32 x3, .int .i64 y1, .int .u32 y2, .int .u32 y3, .int .i64 z1, .int .u32 z2, .int .u32 z3]] w
      fun y w' => y = .returned (.bool true) ∧ ∃ r, w' = ext w r := by
  have HS := hid hs
  have HX2 := hid hx2
  clear hs hx2
  obtain ⟨p, hp⟩ : ∃ p : Int, p = if wr = true then 1 else 0 := ⟨_, rfl⟩
  have HP := hid hp
  have HPB := hid (show (p == 1) = wr by rw [hp]; cases wr <;> rfl)
  clear hp
  have HUP := hid (show unpackB (loc, p, 0) (val, ver, 0) (new, 0, 0) = decide (0 ≤ loc ∧ loc < 4096) by rw [HP.out]; exact unpack_pack loc val ver new wr)
  have HPk := hid (fun (loc val ver ref new : Int) (wr : Bool) (w : World) => pack_any loc val ver ref new wr w)
  have hna := neq_arr
  have hea := eq_arr
  have hga := eq_guard_arr
  have hself : ∀ a b c : Int, wdB (a, b, c) (a, b, c) = true := fun a b c => wdB_self _
  have hb1 := neq_entry ⟨x1, y1, y2, y3, z1, x2 == 1⟩ ⟨x1, y1, y2, y3, z1, x2 == 1⟩
  have hb2 := eq_entry ⟨loc, val, ver, 0, new, wr⟩ ⟨loc, val, ver, 0, new, wr⟩
  have hb3 := neq_entry ⟨0, 0, 0, 0, 0, false⟩ ⟨0, 0, 0, 0, 0, false⟩
  rw [enB_self] at hb1 hb2 hb3
  dsimp only at hb1 hb2 hb3
  have hgb := eq_guard_entry
  have HW3 := hid (show unpackB (x1, x2, x3) (y1, y2, y3) (z1, z2, z3) = true → wdB (x1, (if (x2 == 1) = true then 1 else 0), 0) (x1, x2, x3) = true ∧ wdB (y1, y2, 0) (y1, y2, y3) = true ∧ wdB (z1, 0, 0) (z1, z2, z3) = true by
    intro h
    have h2 := unpack_eq (x1, x2, x3) (y1, y2, y3) (z1, z2, z3)
    unfold unpackB at h
    rw [Bool.and_eq_true] at h
    rw [h.2] at h2
    simp only [Bool.and_eq_true] at h2
    exact ⟨h2.1.1, h2.1.2, h2.2⟩)
  obtain ⟨b, hb⟩ : ∃ b, b = (x2 == 1) := ⟨_, rfl⟩
  obtain ⟨q, hq⟩ : ∃ q : Int, q = if b = true then 1 else 0 := ⟨_, rfl⟩
  have HB := hid hb
  have HQ := hid hq
  rw [← hb] at hb1 HW3
  rw [← hq] at HW3
  have HPe := hid (fun w => show Calls Tryd.prog 20 #[.agg #[.int .i64 loc, .int .i64 val, .int .u32 ver, .int .u32 ref, .int .i64 new, .bool wr]] w fun e w' =>
      e = .returned (.agg #[.int .i64 loc, .int .u32 p, .int .u32 0, .int .i64 val, .int .u32 ver, .int .u32 0, .int .i64 new, .int .u32 0, .int .u32 0]) ∧ ∃ r, w' = ext w r by rw [HP.out]; exact pack_any loc val ver ref new wr w)
  have HRe := hid (fun w => show Calls Tryd.prog 21 #[.agg #[.int .i64 loc, .int .i64 val, .int .u32 ver, .int .u32 ref, .int .i64 new, .bool wr]] w fun e w' =>
      e = .returned (.agg #[.int .i64 loc, .int .u32 p, .int .u32 0, .int .i64 val, .int .u32 ver, .int .u32 0, .int .i64 new, .int .u32 0, .int .u32 0]) ∧ ∃ r, w' = ext w r by rw [HP.out]; exact rentry_any loc val ver ref new wr w)
  have HPx := hid (fun w => show Calls Tryd.prog 20 #[.agg #[.int .i64 x1, .int .i64 y1, .int .u32 y2, .int .u32 y3, .int .i64 z1, .bool b]] w fun e w' =>
      e = .returned (.agg #[.int .i64 x1, .int .u32 q, .int .u32 0, .int .i64 y1, .int .u32 y2, .int .u32 0, .int .i64 z1, .int .u32 0, .int .u32 0]) ∧ ∃ r, w' = ext w r by rw [HQ.out]; exact pack_any x1 y1 y2 y3 z1 b w)
  clear hb hq
  have hcs : (0 ≤ loc ∧ ¬ 4096 ≤ loc) ∨ (¬ 0 ≤ loc) ∨ (0 ≤ loc ∧ 4096 ≤ loc) := by omega
  cases hu : unpackB (x1, x2, x3) (y1, y2, y3) (z1, z2, z3)
  · have HU := hid hu
    clear hu HW3
    rcases hcs with ⟨h1, h2⟩ | h1 | ⟨h1, h2⟩
    · have HUQ := hid (show unpackB (loc, p, 0) (val, ver, 0) (new, 0, 0) = true by rw [HUP.out, decide_eq_true (by omega)])
      go_enter Tryd.func4, Tryd.ntmps4
      go_wp2_with fail
      refine (unpack_any x1 x2 x3 y1 y2 y3 z1 z2 z3 _).mono ?_
      rintro e w' ⟨rfl, r1, rfl⟩
      rw [HU.out]
      simp only [Bool.false_eq_true, if_false]
      go_wp2_with fail
      refine (runpack_any x1 x2 x3 y1 y2 y3 z1 z2 z3 HX2.out _).mono ?_
      rintro e w' ⟨rfl, r2, rfl⟩
      rw [HU.out]
      simp only [Bool.false_eq_true, if_false]
      go_wp2_with fail
      refine region_ext (by kernel_rfl) (by kernel_rfl) ?_
      repeat (go_big_quiet_step ((first | (go_at_call 20; exact quiet_ext (HPe.out _)) | (go_at_call 21; exact quiet_ext (HRe.out _)))))
      refine wpQuiet_nil ?_
      rintro _ ⟨r3, rfl⟩
      go_wp2_with fail
      refine (HPe.out _).mono ?_
      rintro e w' ⟨rfl, r4, rfl⟩
      go_wp2_with fail
      refine (unpack_any loc p 0 val ver 0 new 0 0 _).mono ?_
      rintro e w' ⟨rfl, r5, rfl⟩
      rw [HUQ.out, HPB.out]
      simp only [if_true]
      go_wp2_with fail
      refine region_ext (by kernel_rfl) (by kernel_rfl) ?_
      repeat (go_big_quiet_step ((first | (go_at_call 20; exact quiet_ext (HPx.out _)) | (go_at_call 10; exact quiet_ext (dawake_any _ (HS.out.of (by (show Ext _ _; repeat (first | with_reducible (refine Hid.out ?_; assumption) | with_reducible exact Ext.refl _ | with_reducible refine Ext.ext ?_ _ | with_reducible refine Ext.alloc ?_ _ | with_reducible refine Ext.drew ?_ | with_reducible refine Ext.setCell ?_ (by (try dsimp only); (try simp only [World.size_alloc, World.size_setCell, World.size_drew, size_ext]); omega) _)))))))))
      refine wpQuiet_nil ?_
      rintro _ ⟨r6, rfl⟩
      go_wp2_with fail
      go_ret
      exact ⟨rfl, by (show Ext _ _; repeat (first | with_reducible (refine Hid.out ?_; assumption) | with_reducible exact Ext.refl _ | with_reducible refine Ext.ext ?_ _ | with_reducible refine Ext.alloc ?_ _ | with_reducible refine Ext.drew ?_ | with_reducible refine Ext.setCell ?_ (by (try dsimp only); (try simp only [World.size_alloc, World.size_setCell, World.size_drew, size_ext]); omega) _))⟩
    · have HUQ := hid (show unpackB (loc, p, 0) (val, ver, 0) (new, 0, 0) = false by rw [HUP.out, decide_eq_false (by omega)])
      go_enter Tryd.func4, Tryd.ntmps4
      go_wp2_with fail
      refine (unpack_any x1 x2 x3 y1 y2 y3 z1 z2 z3 _).mono ?_
      rintro e w' ⟨rfl, r1, rfl⟩
      rw [HU.out]
      simp only [Bool.false_eq_true, if_false]
      go_wp2_with fail
      refine (runpack_any x1 x2 x3 y1 y2 y3 z1 z2 z3 HX2.out _).mono ?_
      rintro e w' ⟨rfl, r2, rfl⟩
      rw [HU.out]
      simp only [Bool.false_eq_true, if_false]
      go_wp2_with fail
      refine region_ext (by kernel_rfl) (by kernel_rfl) ?_
      repeat (go_big_quiet_step ((first | (go_at_call 20; exact quiet_ext (HPe.out _)) | (go_at_call 21; exact quiet_ext (HRe.out _)))))
      refine wpQuiet_nil ?_
      rintro _ ⟨r3, rfl⟩
      go_wp2_with fail
      refine (HPe.out _).mono ?_
      rintro e w' ⟨rfl, r4, rfl⟩
      go_wp2_with fail
      refine (unpack_any loc p 0 val ver 0 new 0 0 _).mono ?_
      rintro e w' ⟨rfl, r5, rfl⟩
      rw [HUQ.out]
      simp only [Bool.false_eq_true, if_false]
      go_wp2_with fail
      refine region_ext (by kernel_rfl) (by kernel_rfl) ?_
      repeat (go_big_quiet_step ((first | (go_at_call 20; exact quiet_ext (HPx.out _)) | (go_at_call 10; exact quiet_ext (dawake_any _ (HS.out.of (by (show Ext _ _; repeat (first | with_reducible (refine Hid.out ?_; assumption) | with_reducible exact Ext.refl _ | with_reducible refine Ext.ext ?_ _ | with_reducible refine Ext.alloc ?_ _ | with_reducible refine Ext.drew ?_ | with_reducible refine Ext.setCell ?_ (by (try dsimp only); (try simp only [World.size_alloc, World.size_setCell, World.size_drew, size_ext]); omega) _)))))))))
      refine wpQuiet_nil ?_
      rintro _ ⟨r6, rfl⟩
      go_wp2_with fail
      go_ret
      exact ⟨rfl, by (show Ext _ _; repeat (first | with_reducible (refine Hid.out ?_; assumption) | with_reducible exact Ext.refl _ | with_reducible refine Ext.ext ?_ _ | with_reducible refine Ext.alloc ?_ _ | with_reducible refine Ext.drew ?_ | with_reducible refine Ext.setCell ?_ (by (try dsimp only); (try simp only [World.size_alloc, World.size_setCell, World.size_drew, size_ext]); omega) _))⟩
    · have HUQ := hid (show unpackB (loc, p, 0) (val, ver, 0) (new, 0, 0) = false by rw [HUP.out, decide_eq_false (by omega)])
      go_enter Tryd.func4, Tryd.ntmps4
      go_wp2_with fail
      refine (unpack_any x1 x2 x3 y1 y2 y3 z1 z2 z3 _).mono ?_
      rintro e w' ⟨rfl, r1, rfl⟩
      rw [HU.out]
      simp only [Bool.false_eq_true, if_false]
      go_wp2_with fail
      refine (runpack_any x1 x2 x3 y1 y2 y3 z1 z2 z3 HX2.out _).mono ?_
      rintro e w' ⟨rfl, r2, rfl⟩
      rw [HU.out]
      simp only [Bool.false_eq_true, if_false]
      go_wp2_with fail
      refine region_ext (by kernel_rfl) (by kernel_rfl) ?_
      repeat (go_big_quiet_step ((first | (go_at_call 20; exact quiet_ext (HPe.out _)) | (go_at_call 21; exact quiet_ext (HRe.out _)))))
      refine wpQuiet_nil ?_
      rintro _ ⟨r3, rfl⟩
      go_wp2_with fail
      refine (HPe.out _).mono ?_
      rintro e w' ⟨rfl, r4, rfl⟩
      go_wp2_with fail
      refine (unpack_any loc p 0 val ver 0 new 0 0 _).mono ?_
      rintro e w' ⟨rfl, r5, rfl⟩
      rw [HUQ.out]
      simp only [Bool.false_eq_true, if_false]
      go_wp2_with fail
      refine region_ext (by kernel_rfl) (by kernel_rfl) ?_
      repeat (go_big_quiet_step ((first | (go_at_call 20; exact quiet_ext (HPx.out _)) | (go_at_call 10; exact quiet_ext (dawake_any _ (HS.out.of (by (show Ext _ _; repeat (first | with_reducible (refine Hid.out ?_; assumption) | with_reducible exact Ext.refl _ | with_reducible refine Ext.ext ?_ _ | with_reducible refine Ext.alloc ?_ _ | with_reducible refine Ext.drew ?_ | with_reducible refine Ext.setCell ?_ (by (try dsimp only); (try simp only [World.size_alloc, World.size_setCell, World.size_drew, size_ext]); omega) _)))))))))
      refine wpQuiet_nil ?_
      rintro _ ⟨r6, rfl⟩
      go_wp2_with fail
      go_ret
      exact ⟨rfl, by (show Ext _ _; repeat (first | with_reducible (refine Hid.out ?_; assumption) | with_reducible exact Ext.refl _ | with_reducible refine Ext.ext ?_ _ | with_reducible refine Ext.alloc ?_ _ | with_reducible refine Ext.drew ?_ | with_reducible refine Ext.setCell ?_ (by (try dsimp only); (try simp only [World.size_alloc, World.size_setCell, World.size_drew, size_ext]); omega) _))⟩
  · have HU := hid hu
    obtain ⟨hw1, hw2, hw3⟩ := HW3.out hu
    clear hu HW3
    rcases hcs with ⟨h1, h2⟩ | h1 | ⟨h1, h2⟩
    · have HUQ := hid (show unpackB (loc, p, 0) (val, ver, 0) (new, 0, 0) = true by rw [HUP.out, decide_eq_true (by omega)])
      go_enter Tryd.func4, Tryd.ntmps4
      go_wp2_with fail
      refine (unpack_any x1 x2 x3 y1 y2 y3 z1 z2 z3 _).mono ?_
      rintro e w' ⟨rfl, r1, rfl⟩
      rw [HU.out, ← HB.out]
      simp only [if_true]
      go_wp2_with fail
      refine (runpack_any x1 x2 x3 y1 y2 y3 z1 z2 z3 HX2.out _).mono ?_
      rintro e w' ⟨rfl, r2, rfl⟩
      rw [HU.out, ← HB.out]
      simp only [if_true]
      go_wp2_with fail
      refine region_ext (by kernel_rfl) (by kernel_rfl) ?_
      repeat (go_big_quiet_step ((first | (go_at_call 20; exact quiet_ext (HPe.out _)) | (go_at_call 21; exact quiet_ext (HRe.out _)))))
      refine wpQuiet_nil ?_
      rintro _ ⟨r3, rfl⟩
      go_wp2_with fail
      refine (HPe.out _).mono ?_
      rintro e w' ⟨rfl, r4, rfl⟩
      go_wp2_with fail
      refine (unpack_any loc p 0 val ver 0 new 0 0 _).mono ?_
      rintro e w' ⟨rfl, r5, rfl⟩
      rw [HUQ.out, HPB.out]
      simp only [if_true]
      go_wp2_with fail
      refine region_ext (by kernel_rfl) (by kernel_rfl) ?_
      repeat (go_big_quiet_step ((first | (go_at_call 20; exact quiet_ext (HPx.out _)) | (go_at_call 10; exact quiet_ext (dawake_any _ (HS.out.of (by (show Ext _ _; repeat (first | with_reducible (refine Hid.out ?_; assumption) | with_reducible exact Ext.refl _ | with_reducible refine Ext.ext ?_ _ | with_reducible refine Ext.alloc ?_ _ | with_reducible refine Ext.drew ?_ | with_reducible refine Ext.setCell ?_ (by (try dsimp only); (try simp only [World.size_alloc, World.size_setCell, World.size_drew, size_ext]); omega) _)))))))))
      refine wpQuiet_nil ?_
      rintro _ ⟨r6, rfl⟩
      go_wp2_with fail
      go_ret
      exact ⟨rfl, by (show Ext _ _; repeat (first | with_reducible (refine Hid.out ?_; assumption) | with_reducible exact Ext.refl _ | with_reducible refine Ext.ext ?_ _ | with_reducible refine Ext.alloc ?_ _ | with_reducible refine Ext.drew ?_ | with_reducible refine Ext.setCell ?_ (by (try dsimp only); (try simp only [World.size_alloc, World.size_setCell, World.size_drew, size_ext]); omega) _))⟩
    · have HUQ := hid (show unpackB (loc, p, 0) (val, ver, 0) (new, 0, 0) = false by rw [HUP.out, decide_eq_false (by omega)])
      go_enter Tryd.func4, Tryd.ntmps4
      go_wp2_with fail
      refine (unpack_any x1 x2 x3 y1 y2 y3 z1 z2 z3 _).mono ?_
      rintro e w' ⟨rfl, r1, rfl⟩
      rw [HU.out, ← HB.out]
      simp only [if_true]
      go_wp2_with fail
      refine (runpack_any x1 x2 x3 y1 y2 y3 z1 z2 z3 HX2.out _).mono ?_
      rintro e w' ⟨rfl, r2, rfl⟩
      rw [HU.out, ← HB.out]
      simp only [if_true]
      go_wp2_with fail
      refine region_ext (by kernel_rfl) (by kernel_rfl) ?_
      repeat (go_big_quiet_step ((first | (go_at_call 20; exact quiet_ext (HPe.out _)) | (go_at_call 21; exact quiet_ext (HRe.out _)))))
      refine wpQuiet_nil ?_
      rintro _ ⟨r3, rfl⟩
      go_wp2_with fail
      refine (HPe.out _).mono ?_
      rintro e w' ⟨rfl, r4, rfl⟩
      go_wp2_with fail
      refine (unpack_any loc p 0 val ver 0 new 0 0 _).mono ?_
      rintro e w' ⟨rfl, r5, rfl⟩
      rw [HUQ.out]
      simp only [Bool.false_eq_true, if_false]
      go_wp2_with fail
      refine region_ext (by kernel_rfl) (by kernel_rfl) ?_
      repeat (go_big_quiet_step ((first | (go_at_call 20; exact quiet_ext (HPx.out _)) | (go_at_call 10; exact quiet_ext (dawake_any _ (HS.out.of (by (show Ext _ _; repeat (first | with_reducible (refine Hid.out ?_; assumption) | with_reducible exact Ext.refl _ | with_reducible refine Ext.ext ?_ _ | with_reducible refine Ext.alloc ?_ _ | with_reducible refine Ext.drew ?_ | with_reducible refine Ext.setCell ?_ (by (try dsimp only); (try simp only [World.size_alloc, World.size_setCell, World.size_drew, size_ext]); omega) _)))))))))
      refine wpQuiet_nil ?_
      rintro _ ⟨r6, rfl⟩
      go_wp2_with fail
      go_ret
      exact ⟨rfl, by (show Ext _ _; repeat (first | with_reducible (refine Hid.out ?_; assumption) | with_reducible exact Ext.refl _ | with_reducible refine Ext.ext ?_ _ | with_reducible refine Ext.alloc ?_ _ | with_reducible refine Ext.drew ?_ | with_reducible refine Ext.setCell ?_ (by (try dsimp only); (try simp only [World.size_alloc, World.size_setCell, World.size_drew, size_ext]); omega) _))⟩
    · have HUQ := hid (show unpackB (loc, p, 0) (val, ver, 0) (new, 0, 0) = false by rw [HUP.out, decide_eq_false (by omega)])
      go_enter Tryd.func4, Tryd.ntmps4
      go_wp2_with fail
      refine (unpack_any x1 x2 x3 y1 y2 y3 z1 z2 z3 _).mono ?_
      rintro e w' ⟨rfl, r1, rfl⟩
      rw [HU.out, ← HB.out]
      simp only [if_true]
      go_wp2_with fail
      refine (runpack_any x1 x2 x3 y1 y2 y3 z1 z2 z3 HX2.out _).mono ?_
      rintro e w' ⟨rfl, r2, rfl⟩
      rw [HU.out, ← HB.out]
      simp only [if_true]
      go_wp2_with fail
      refine region_ext (by kernel_rfl) (by kernel_rfl) ?_
      repeat (go_big_quiet_step ((first | (go_at_call 20; exact quiet_ext (HPe.out _)) | (go_at_call 21; exact quiet_ext (HRe.out _)))))
      refine wpQuiet_nil ?_
      rintro _ ⟨r3, rfl⟩
      go_wp2_with fail
      refine (HPe.out _).mono ?_
      rintro e w' ⟨rfl, r4, rfl⟩
      go_wp2_with fail
      refine (unpack_any loc p 0 val ver 0 new 0 0 _).mono ?_
      rintro e w' ⟨rfl, r5, rfl⟩
      rw [HUQ.out]
      simp only [Bool.false_eq_true, if_false]
      go_wp2_with fail
      refine region_ext (by kernel_rfl) (by kernel_rfl) ?_
      repeat (go_big_quiet_step ((first | (go_at_call 20; exact quiet_ext (HPx.out _)) | (go_at_call 10; exact quiet_ext (dawake_any _ (HS.out.of (by (show Ext _ _; repeat (first | with_reducible (refine Hid.out ?_; assumption) | with_reducible exact Ext.refl _ | with_reducible refine Ext.ext ?_ _ | with_reducible refine Ext.alloc ?_ _ | with_reducible refine Ext.drew ?_ | with_reducible refine Ext.setCell ?_ (by (try dsimp only); (try simp only [World.size_alloc, World.size_setCell, World.size_drew, size_ext]); omega) _)))))))))
      refine wpQuiet_nil ?_
      rintro _ ⟨r6, rfl⟩
      go_wp2_with fail
      go_ret
      exact ⟨rfl, by (show Ext _ _; repeat (first | with_reducible (refine Hid.out ?_; assumption) | with_reducible exact Ext.refl _ | with_reducible refine Ext.ext ?_ _ | with_reducible refine Ext.alloc ?_ _ | with_reducible refine Ext.drew ?_ | with_reducible refine Ext.setCell ?_ (by (try dsimp only); (try simp only [World.size_alloc, World.size_setCell, World.size_drew, size_ext]); omega) _))⟩

end Go.Proofs.YtojcojghnhibmaaDoor
