/- The walk of LayoutPlaces. -/
import Derived.Test.YtoaghifcgjpijaaDoorLayQ
namespace Go.Proofs.YtoaghifcgjpijaaDoor
open Go.RowKit

theorem Ks.of {w w' : World} {base : Nat} {v : Value} {l : List Kd} (h : Ks w base v l) (he : Ext w w') : Ks w' base v l := by
  obtain ⟨r, rfl⟩ := he; exact Own.ext h r

set_option maxHeartbeats 400000 in
/-- The closure 'find'. -/
theorem find_cl (kb base : Nat) (v : Value) (l : List Kd) (what o : Int) (w : World) (hl : l.length ≤ 100000) (hc : w.cell? ⟨kb, 0, none⟩ = some v) (hv : Ks w base v l) :
    Calls Tryd.prog 14 #[.int .i64 what, .int .i64 o, .pointer (some ⟨kb, 0, none⟩)] w fun e w' => e = .returned (.int .i64 (findN l (what, o, 0))) ∧ ∃ r, w' = ext w r := by
  obtain ⟨a, cp, hsh⟩ := Own.shape hv
  rw [hsh] at hc
  have HV := hid hv
  have HH := hid hsh
  clear hv hsh
  have hc2 : ∀ o, (w.alloc o).cell? ⟨kb, 0, none⟩ = w.cell? ⟨kb, 0, none⟩ := fun o => World.cell?_alloc_past o kb 0 (World.block_lt_of_cell? w _ hc)
  go_enter Tryd.func14, Tryd.ntmps14
  go_wp2_with fail
  rw [← HH.out]
  go_call (find_any l (what, o, 0) base v _ hl HV.out) as e w' ⟨rfl, r, rfl⟩
  go_wp2_with fail
  go_ret
  exact ⟨rfl, by (show Ext _ _; repeat (first | exact Ext.refl _ | refine Ext.ext ?_ _ | refine Ext.alloc ?_ _ | refine Ext.drew ?_ | refine Ext.drewN ?_ _))⟩

theorem allK_len (t c b : Int) : (allK t c b).length ≤ 100000 := by
  have h := allK_size t c b
  have : sizeN t c b ≤ 4096 := by
    simp only [sizeN]
    split
    · exact (right_lok (by assumption)).2
    · omega
  omega

set_option maxRecDepth 100000 in
set_option maxHeartbeats 4000000 in
theorem places_any (t c b x y : Int) (hx : InR x) (hy : InR y) (w : World) (hs : Szs w) :
    Calls Tryd.prog 4 #[.agg #[.int .i64 t, .int .i64 c, .int .i64 b], .int .i64 x, .int .i64 y] w fun e w' => e = .returned (.bool true) ∧ ∃ r, w' = ext w r := by
  have HS := hid hs
  have HLen := hid (allK_len t c b)
  have hmf : ∀ (fn : Fn) (first cap : Array Value) (w : World), (Instr.makeFunc fn first cap).run Tryd.prog w = .ok (.func fn first cap) w := fun _ _ _ _ => rfl
  clear hs
  have HX := hid hx
  have HY := hid hy
  clear hx hy
  go_enter Tryd.func4, Tryd.ntmps4
  go_wp2_with fail
  go_call (lall_any t c b _) as e w' ⟨v, rfl, ⟨r, rfl⟩, hv⟩
  obtain ⟨a, cp, hsh⟩ := Own.shape hv
  subst hsh
  have HV := hid hv
  clear hv
  go_wp2_with fail
  obtain ⟨v, hv⟩ : ∃ v, v = Value.slice a (allK t c b).length cp := ⟨_, rfl⟩
  obtain ⟨base, hbase⟩ : ∃ base, base = (w.alloc (.cells #[.int .i64 t, .int .i64 c, .int .i64 b] 23)).heap.size := ⟨_, rfl⟩
  have hb2 : (ext (w.alloc (.cells #[.int .i64 t, .int .i64 c, .int .i64 b] 23)) r).heap.size = w.heap.size + 1 + r.new.size := by simp
  obtain ⟨kb, hkb⟩ : ∃ kb, kb = w.heap.size + 1 + r.new.size := ⟨_, rfl⟩
  obtain ⟨r1, hw⟩ : ∃ r1, (ext (w.alloc (.cells #[.int .i64 t, .int .i64 c, .int .i64 b] 23)) r).alloc (.cells #[Value.slice a (allK t c b).length cp] 29) = ext (w.alloc (.cells #[.int .i64 t, .int .i64 c, .int .i64 b] 23)) r1 := (Ext.of_alloc _ _ |> Ext.trans ⟨r, rfl⟩)
  have HC0 : (ext (w.alloc (.cells #[.int .i64 t, .int .i64 c, .int .i64 b] 23)) r1).cell? ⟨kb, 0, none⟩ = some v := by rw [← hw, hkb, World.cell?_alloc_at _ _ _ _ hb2.symm, hv]; rfl
  have HK0 : Ks (ext (w.alloc (.cells #[.int .i64 t, .int .i64 c, .int .i64 b] 23)) r1) base v (allK t c b) := by rw [← hw, hv, hbase]; exact HV.out.alloc _
  rw [hw, ← hkb, ← hv]
  have hl0 : (ext (w.alloc (.cells #[.int .i64 t, .int .i64 c, .int .i64 b] 23)) r1).cell? ⟨w.heap.size, 0, none⟩ = some (.int .i64 t) := by simp [go_sem]
  have hl1 : (ext (w.alloc (.cells #[.int .i64 t, .int .i64 c, .int .i64 b] 23)) r1).cell? ⟨w.heap.size, 1, none⟩ = some (.int .i64 c) := by simp [go_sem]
  have hl2 : (ext (w.alloc (.cells #[.int .i64 t, .int .i64 c, .int .i64 b] 23)) r1).cell? ⟨w.heap.size, 2, none⟩ = some (.int .i64 b) := by simp [go_sem]
  have hE : Ext w (ext (w.alloc (.cells #[.int .i64 t, .int .i64 c, .int .i64 b] 23)) r1) := by (show Ext _ _; repeat (first | exact Ext.refl _ | refine Ext.ext ?_ _ | refine Ext.alloc ?_ _ | refine Ext.drew ?_ | refine Ext.drewN ?_ _))
  have hlt : w.heap.size < (ext (w.alloc (.cells #[.int .i64 t, .int .i64 c, .int .i64 b] 23)) r1).heap.size := World.block_lt_of_cell? _ _ hl0
  have hSz := HS.out.of hE
  clear hw hkb hb2 hbase HV hv r
  generalize ext (w.alloc (.cells #[.int .i64 t, .int .i64 c, .int .i64 b] 23)) r1 = W at *
  have HC1 : Hid (∀ r, (ext W r).cell? ⟨kb, 0, none⟩ = some v) := hid fun r => Ext.cell ⟨r, rfl⟩ HC0
  have HK1 : Hid (∀ r, Ks (ext W r) base v (allK t c b)) := hid fun r => Own.ext HK0 r
  have HS1 : Hid (∀ r, Szs (ext W r)) := hid fun r => hSz.ext r
  have HE := hid hE
  clear HC0 HK0 hSz hE HS
  rw [ext_zero W]
  go_call (quiet_ext (bits_any t c b y HY.out.1 HY.out.2 _ (HS1.out _))) as e w' ⟨rfl, r, rfl⟩
  by_cases hb : 0 ≤ findN (allK t c b) (9, y, 0)
  · obtain ⟨q1, q2, q3, q4⟩ := bits_law t c b y hb
    have Q1 := hid q1
    have Q2 := hid q2
    clear q1 q2
    rw [show bitsN t c b y = ((bitsN t c b y).1, wrap64 (2 ^ (y % 32).toNat)) from by rw [wrap_pow _ (by omega), ← Q2.out]]
    go_wp2_with fail
    go_call (quiet_ext (find_cl kb base v (allK t c b) 9 y _ HLen.out (HC1.out _) (HK1.out _))) as e w' ⟨rfl, r2, rfl⟩
    go_wp2_with fail
    refine region_ext (by kernel_rfl) (by kernel_rfl) ?_
    repeat (go_big_quiet_step ((go_at_call 14; exact quiet_ext (find_cl kb base v (allK t c b) 8 (y / 32) _ HLen.out (Ext.cell ⟨_, rfl⟩ (HC1.out _)) (Own.ext (HK1.out _) _)))))
    refine wpQuiet_nil ?_
    rintro _ ⟨r3, rfl⟩
    rw [ext_ext, Q1.out]
    go_wp2_with fail
    go_call (quiet_ext (clock_any t c b _ (HS1.out _))) as e w' ⟨rfl, r, rfl⟩
    go_wp2_with fail
    go_call (quiet_ext (find_cl kb base v (allK t c b) 1 0 _ HLen.out (HC1.out _) (HK1.out _))) as e w' ⟨rfl, r, rfl⟩
    rw [clock_law]
    go_wp2_with fail
    go_call (quiet_ext (era_any t c b _ (HS1.out _))) as e w' ⟨rfl, r, rfl⟩
    go_wp2_with fail
    go_call (quiet_ext (find_cl kb base v (allK t c b) 2 0 _ HLen.out (HC1.out _) (HK1.out _))) as e w' ⟨rfl, r, rfl⟩
    rw [era_law]
    go_wp2_with fail
    go_call (quiet_ext (announce_any t c b x _ (HS1.out _))) as e w' ⟨rfl, r, rfl⟩
    go_wp2_with fail
    go_call (quiet_ext (find_cl kb base v (allK t c b) 3 x _ HLen.out (HC1.out _) (HK1.out _))) as e w' ⟨rfl, r, rfl⟩
    rw [announce_law _ _ _ _ HX.out]
    go_wp2_with fail
    go_call (quiet_ext (hazard_any t c b x _ (HS1.out _))) as e w' ⟨rfl, r, rfl⟩
    go_wp2_with fail
    go_call (quiet_ext (find_cl kb base v (allK t c b) 4 x _ HLen.out (HC1.out _) (HK1.out _))) as e w' ⟨rfl, r, rfl⟩
    rw [hazard_law _ _ _ _ HX.out]
    go_wp2_with fail
    go_call (quiet_ext (awake_any _ (HS1.out _))) as e w' ⟨rfl, r, rfl⟩
    go_wp2_with fail
    go_call (quiet_ext (record_any t c b x _ (HS1.out _))) as e w' ⟨rfl, r, rfl⟩
    go_wp2_with fail
    go_call (quiet_ext (find_cl kb base v (allK t c b) 5 x _ HLen.out (HC1.out _) (HK1.out _))) as e w' ⟨rfl, r, rfl⟩
    rw [record_law _ _ _ _ HX.out]
    go_wp2_with fail
    go_call (quiet_ext (slot_any t c b x _ (HS1.out _))) as e w' ⟨rfl, r, rfl⟩
    go_wp2_with fail
    go_call (quiet_ext (find_cl kb base v (allK t c b) 7 x _ HLen.out (HC1.out _) (HK1.out _))) as e w' ⟨rfl, r, rfl⟩
    rw [slot_law _ _ _ _ HX.out]
    go_wp2_with fail
    go_call (quiet_ext (cell_any t c b y _ (HS1.out _))) as e w' ⟨rfl, r, rfl⟩
    go_wp2_with fail
    go_call (quiet_ext (find_cl kb base v (allK t c b) 6 y _ HLen.out (HC1.out _) (HK1.out _))) as e w' ⟨rfl, r, rfl⟩
    rw [cell_law]
    go_wp2_with fail
    go_call (quiet_ext (block_any t c b y _ (HS1.out _))) as e w' ⟨rfl, r, rfl⟩
    go_wp2_with fail
    go_call (quiet_ext (find_cl kb base v (allK t c b) 9 y _ HLen.out (HC1.out _) (HK1.out _))) as e w' ⟨rfl, r, rfl⟩
    rw [block_law]
    go_wp2_with fail
    go_ret
    exact ⟨rfl, Ext.trans HE.out ⟨_, rfl⟩⟩
  · rw [bits_none t c b y hb]
    go_wp2_with fail
    go_call (quiet_ext (find_cl kb base v (allK t c b) 9 y _ HLen.out (HC1.out _) (HK1.out _))) as e w' ⟨rfl, r2, rfl⟩
    go_wp2_with fail
    go_call (quiet_ext (clock_any t c b _ (HS1.out _))) as e w' ⟨rfl, r, rfl⟩
    go_wp2_with fail
    go_call (quiet_ext (find_cl kb base v (allK t c b) 1 0 _ HLen.out (HC1.out _) (HK1.out _))) as e w' ⟨rfl, r, rfl⟩
    rw [clock_law]
    go_wp2_with fail
    go_call (quiet_ext (era_any t c b _ (HS1.out _))) as e w' ⟨rfl, r, rfl⟩
    go_wp2_with fail
    go_call (quiet_ext (find_cl kb base v (allK t c b) 2 0 _ HLen.out (HC1.out _) (HK1.out _))) as e w' ⟨rfl, r, rfl⟩
    rw [era_law]
    go_wp2_with fail
    go_call (quiet_ext (announce_any t c b x _ (HS1.out _))) as e w' ⟨rfl, r, rfl⟩
    go_wp2_with fail
    go_call (quiet_ext (find_cl kb base v (allK t c b) 3 x _ HLen.out (HC1.out _) (HK1.out _))) as e w' ⟨rfl, r, rfl⟩
    rw [announce_law _ _ _ _ HX.out]
    go_wp2_with fail
    go_call (quiet_ext (hazard_any t c b x _ (HS1.out _))) as e w' ⟨rfl, r, rfl⟩
    go_wp2_with fail
    go_call (quiet_ext (find_cl kb base v (allK t c b) 4 x _ HLen.out (HC1.out _) (HK1.out _))) as e w' ⟨rfl, r, rfl⟩
    rw [hazard_law _ _ _ _ HX.out]
    go_wp2_with fail
    go_call (quiet_ext (awake_any _ (HS1.out _))) as e w' ⟨rfl, r, rfl⟩
    go_wp2_with fail
    go_call (quiet_ext (record_any t c b x _ (HS1.out _))) as e w' ⟨rfl, r, rfl⟩
    go_wp2_with fail
    go_call (quiet_ext (find_cl kb base v (allK t c b) 5 x _ HLen.out (HC1.out _) (HK1.out _))) as e w' ⟨rfl, r, rfl⟩
    rw [record_law _ _ _ _ HX.out]
    go_wp2_with fail
    go_call (quiet_ext (slot_any t c b x _ (HS1.out _))) as e w' ⟨rfl, r, rfl⟩
    go_wp2_with fail
    go_call (quiet_ext (find_cl kb base v (allK t c b) 7 x _ HLen.out (HC1.out _) (HK1.out _))) as e w' ⟨rfl, r, rfl⟩
    rw [slot_law _ _ _ _ HX.out]
    go_wp2_with fail
    go_call (quiet_ext (cell_any t c b y _ (HS1.out _))) as e w' ⟨rfl, r, rfl⟩
    go_wp2_with fail
    go_call (quiet_ext (find_cl kb base v (allK t c b) 6 y _ HLen.out (HC1.out _) (HK1.out _))) as e w' ⟨rfl, r, rfl⟩
    rw [cell_law]
    go_wp2_with fail
    go_call (quiet_ext (block_any t c b y _ (HS1.out _))) as e w' ⟨rfl, r, rfl⟩
    go_wp2_with fail
    go_call (quiet_ext (find_cl kb base v (allK t c b) 9 y _ HLen.out (HC1.out _) (HK1.out _))) as e w' ⟨rfl, r, rfl⟩
    rw [block_law]
    go_wp2_with fail
    go_ret
    exact ⟨rfl, Ext.trans HE.out ⟨_, rfl⟩⟩


end Go.Proofs.YtoaghifcgjpijaaDoor
