/- The walk of LayoutMay. -/
import Derived.Test.YtoaghifcgjpijaaDoorPlacesWalk
import Derived.Deep.DeepCutAuto
namespace Go.Proofs.YtoaghifcgjpijaaDoor
open Go.RowKit

/-- The law's own word on a location. -/
def kindMay (l : List Kd) (n : Int) : Bool := decide (0 ≤ n) && (match l[n.toNat]? with | some k => k.1 == 6 || k.1 == 5 | none => false)

theorem may_law (t c b n : Int) : mayN t c b n = kindMay (allK t c b) n := by
  rcases lay_cases t c b with ⟨hr, hk⟩ | ⟨T, C, B, rfl, rfl, rfl, hr, hk, _⟩
  · rw [hk]; simp [mayN, hr, kindMay]
  · rw [hk]
    obtain ⟨f0, f1, f2, f3, f4, f5, f6⟩ := from_vals T C B
    simp only [mayN, hr, Bool.true_and, f2, f3, kindMay]
    by_cases h0 : 0 ≤ n
    · obtain ⟨m, rfl⟩ := Int.eq_ofNat_of_zero_le h0
      rw [Int.toNat_natCast]
      by_cases hm : m < (allL T C B).length
      · rw [allL_get _ _ _ _ hm]
        rw [allL_len] at hm
        simp only [h0, decide_true, Bool.true_and]
        unfold kindAt
        by_cases c1 : m < 8
        · rw [if_pos c1]
          by_cases c2 : m = 0
          · rw [if_pos c2]; simp; omega
          · rw [if_neg c2]
            by_cases c3 : m = 1
            · rw [if_pos c3]; simp; omega
            · rw [if_neg c3]; simp; omega
        rw [if_neg c1]
        by_cases c2 : m < 8 + 8 * T
        · rw [if_pos c2]
          by_cases c3 : (m - 8) % 8 = 0
          · rw [if_pos c3]; simp; omega
          · rw [if_neg c3]
            by_cases c4 : (m - 8) % 8 = 1
            · rw [if_pos c4]; simp; omega
            · rw [if_neg c4]; simp; omega
        rw [if_neg c2]
        by_cases c3 : m < 8 + 16 * T
        · rw [if_pos c3]
          by_cases c4 : (m - (8 + 8 * T)) % 8 < 3
          · rw [if_pos c4]; simp; omega
          · rw [if_neg c4]; simp; omega
        rw [if_neg c3]
        by_cases c4 : m < 8 + 16 * T + C
        · rw [if_pos c4]; simp; omega
        rw [if_neg c4]
        by_cases c5 : m < 8 + 16 * T + C + padN C
        · rw [if_pos c5]; simp; omega
        rw [if_neg c5]
        by_cases c6 : m < 8 + 16 * T + C + padN C + 104 * T
        · rw [if_pos c6]; simp; omega
        rw [if_neg c6]
        by_cases c7 : m < 8 + 16 * T + C + padN C + 104 * T + (if 0 < B then 8 else 0)
        · rw [if_pos c7]
          by_cases c8 : m = 8 + 16 * T + C + padN C + 104 * T
          · rw [if_pos c8]; simp; omega
          · rw [if_neg c8]
            by_cases c9 : m = 8 + 16 * T + C + padN C + 104 * T + 1
            · rw [if_pos c9]; simp; omega
            · rw [if_neg c9]; simp; omega
        · rw [if_neg c7]; simp; omega
      · rw [List.getElem?_eq_none (by omega)]
        rw [allL_len] at hm
        simp
        omega
    · simp [h0]; omega

/-- The law's own words on a holder. -/
def wantN (l : List Kd) (who : Int) : Int := if 1 ≤ who ∧ who ≤ 8 then findN l (7, who, 0) else if 9 ≤ who ∧ who ≤ 72 then findN l (9, who - 9, 0) else -1
def muchN (l : List Kd) (who : Int) : Int := if wantN l who < 0 then 0 else if who ≤ 8 then 32 else 10

theorem at_neg {t c b i : Int} {p : Nat} (h : atN t c b p i 0 < 0) : atN t c b p i 0 = -1 := by
  simp only [atN] at h ⊢
  split
  · rename_i hv
    rw [if_pos hv] at h
    have h1 := (from_bd (right_lok hv.1).1 p).1
    have h2 := (prod_bd (right_lok hv.1).1 p hv.2.1 hv.2.2).1
    omega
  · rfl

theorem place_law (t c b who : Int) (hx : InR who) : placeN t c b who = (wantN (allK t c b) who, muchN (allK t c b) who) := by
  have hs := slot_law t c b who hx
  by_cases h9 : 9 ≤ who
  · have hb := block_law t c b (who - 9)
    have hw : wantN (allK t c b) who = atN t c b 6 (who - 9) 0 := by
      unfold wantN
      rw [if_neg (show ¬ (1 ≤ who ∧ who ≤ 8) by omega)]
      by_cases h72 : who ≤ 72
      · rw [if_pos (show 9 ≤ who ∧ who ≤ 72 from ⟨h9, h72⟩), hb]
      · rw [if_neg (show ¬ (9 ≤ who ∧ who ≤ 72) by omega)]
        simp only [atN, manyN]
        rw [if_neg]
        rintro ⟨h1, h2, h3⟩
        have := (right_lok h1).1.2.2.2.2.2
        omega
    simp only [placeN, muchN, hw, h9, if_true]
    by_cases hn : atN t c b 6 (who - 9) 0 < 0
    · rw [if_pos hn, if_pos hn, at_neg hn]
    · rw [if_neg hn, if_neg hn, if_neg (show ¬ who ≤ 8 by omega)]
  · have hw : wantN (allK t c b) who = atN t c b 4 (wrap64 (who - 1)) 0 := by
      unfold wantN
      by_cases h1 : 1 ≤ who
      · rw [if_pos (show 1 ≤ who ∧ who ≤ 8 by omega), hs]
      · rw [if_neg (show ¬ (1 ≤ who ∧ who ≤ 8) by omega), if_neg (show ¬ (9 ≤ who ∧ who ≤ 72) by omega), ← hs]
        rcases lay_cases t c b with ⟨_, hk⟩ | ⟨T, C, B, rfl, rfl, rfl, _, hk, _⟩
        · rw [hk]; rfl
        · rw [hk]; exact (find_no (by omega) (by simp [okI]; omega)).symm
    simp only [placeN, muchN, hw, h9, if_false]
    by_cases hn : atN t c b 4 (wrap64 (who - 1)) 0 < 0
    · rw [if_pos hn, if_pos hn, at_neg hn]
    · rw [if_neg hn, if_neg hn, if_pos (show who ≤ 8 by omega)]

set_option maxRecDepth 100000 in
set_option maxHeartbeats 4000000 in
theorem lmay_any (t c b x y : Int) (hx : InR x) (hy : InR y) (w : World) (hs : Szs w) :
    Calls Tryd.prog 8 #[.agg #[.int .i64 t, .int .i64 c, .int .i64 b], .int .i64 x, .int .i64 y] w fun e w' => e = .returned (.bool true) ∧ ∃ r, w' = ext w r := by
  have HS := hid hs
  have HLen := hid (allK_len t c b)
  have HX := hid hx
  have HY := hid hy
  clear hs hx hy
  go_enter Tryd.func8, Tryd.ntmps8
  go_wp2_with fail
  go_call (lall_any t c b _) as e w' ⟨v, rfl, ⟨r, rfl⟩, hv⟩
  have hl0 : (ext (w.alloc (.cells #[.int .i64 t, .int .i64 c, .int .i64 b] 23)) r).cell? ⟨w.heap.size, 0, none⟩ = some (.int .i64 t) := by simp [go_sem]
  have hl1 : (ext (w.alloc (.cells #[.int .i64 t, .int .i64 c, .int .i64 b] 23)) r).cell? ⟨w.heap.size, 1, none⟩ = some (.int .i64 c) := by simp [go_sem]
  have hl2 : (ext (w.alloc (.cells #[.int .i64 t, .int .i64 c, .int .i64 b] 23)) r).cell? ⟨w.heap.size, 2, none⟩ = some (.int .i64 b) := by simp [go_sem]
  have hE : Ext w (ext (w.alloc (.cells #[.int .i64 t, .int .i64 c, .int .i64 b] 23)) r) := by (show Ext _ _; repeat (first | exact Ext.refl _ | refine Ext.ext ?_ _ | refine Ext.alloc ?_ _ | refine Ext.drew ?_ | refine Ext.drewN ?_ _))
  have hlt : w.heap.size < (ext (w.alloc (.cells #[.int .i64 t, .int .i64 c, .int .i64 b] 23)) r).heap.size := World.block_lt_of_cell? _ _ hl0
  have hSz := HS.out.of hE
  generalize ext (w.alloc (.cells #[.int .i64 t, .int .i64 c, .int .i64 b] 23)) r = W at *
  generalize (w.alloc (.cells #[.int .i64 t, .int .i64 c, .int .i64 b] 23)).heap.size = base at *
  have HK1 : Hid (∀ r, Ks (ext W r) base v (allK t c b)) := hid fun r => Own.ext hv r
  have HK0 := hid hv
  have HS1 : Hid (∀ r, Szs (ext W r)) := hid fun r => hSz.ext r
  have HS2 := hid hSz
  have HE := hid hE
  obtain ⟨a, cp, hsh⟩ := Own.shape hv
  clear hv hSz hE HS r
  go_upto_region 2 with fail
  go_cut [8] (fun s8 wx => s8 = .bool (kindMay (allK t c b) x) ∧ wx = W)
  case first =>
    subst hsh
    by_cases h0 : 0 ≤ x
    · obtain ⟨m, rfl⟩ := Int.eq_ofNat_of_zero_le h0
      by_cases h1 : m < (allK t c b).length
      · obtain ⟨g, cc, hg, hgl, hc⟩ := Own.cellsAt kdE_len HK0.out (List.getElem?_eq_getElem h1)
        have hc0 := hc 0 (by omega)
        have hM : kindMay (allK t c b) m = ((allK t c b)[m].1 == 6 || (allK t c b)[m].1 == 5) := by simp [kindMay, h1]
        generalize (allK t c b)[m] = kd at hc hc0 hM
        simp [kdE] at hc0 hg
        obtain ⟨rfl, rfl⟩ := hg
        clear hc
        by_cases h6 : kd.1 = 6
        · have HM := hid (show kindMay (allK t c b) m = true by rw [hM]; simp [h6])
          have h6' : (kd.1 == 6) = true := by simpa using h6
          clear hM h6
          go_wp2_with fail
          go_meet
          exact ⟨by rw [HM.out], rfl⟩
        · have h6' : (kd.1 == 6) = false := by simpa using h6
          by_cases h5 : kd.1 = 5
          · have HM := hid (show kindMay (allK t c b) m = true by rw [hM]; simp [h5])
            have h5' : (kd.1 == 5) = true := by simpa using h5
            clear hM h6 h5
            go_wp2_with fail
            go_meet
            exact ⟨by rw [HM.out], rfl⟩
          · have HM := hid (show kindMay (allK t c b) m = false by rw [hM]; simp [h5, h6])
            have h5' : (kd.1 == 5) = false := by simpa using h5
            clear hM h6 h5
            go_wp2_with fail
            go_meet
            exact ⟨by rw [HM.out], rfl⟩
      · have HM := hid (show kindMay (allK t c b) m = false by simp [kindMay, List.getElem?_eq_none (Nat.le_of_not_lt h1)])
        go_wp2_with fail
        go_meet
        exact ⟨by rw [HM.out], rfl⟩
    · have HM := hid (show kindMay (allK t c b) x = false by simp [kindMay, h0])
      go_wp2_with fail
      go_meet
      exact ⟨by rw [HM.out], rfl⟩
  case rest =>
    obtain ⟨rfl, rfl⟩ := hcut
    have hpl := place_law t c b y HY.out
    have HP := hid hpl
    clear hpl HK0
    subst hsh
    rw [ext_zero wc]
    go_wp2_with fail
    go_call (quiet_ext (place_any t c b y HY.out.1 HY.out.2 _ (HS1.out _))) as e w' ⟨rfl, r, rfl⟩
    rw [HP.out]
    by_cases h1 : 1 ≤ y
    · by_cases h2 : y ≤ 8
      · have HW := hid (show wantN (allK t c b) y = findN (allK t c b) (7, y, 0) by unfold wantN; rw [if_pos ⟨h1, h2⟩])
        by_cases hn : findN (allK t c b) (7, y, 0) < 0
        · have HM := hid (show muchN (allK t c b) y = 0 by unfold muchN; rw [HW.out, if_pos hn])
          rw [HW.out, HM.out]
          go_wp2_with fail
          go_call (quiet_ext (find_any (allK t c b) (7, y, 0) base _ _ HLen.out (HK1.out _))) as e w' ⟨rfl, r2, rfl⟩
          go_wp2_with fail
          go_call (quiet_ext (awake_any _ (HS1.out _))) as e w' ⟨rfl, r3, rfl⟩
          go_wp2_with fail
          go_call (quiet_ext (may_any t c b x HX.out.1 HX.out.2 _ (HS1.out _))) as e w' ⟨rfl, r4, rfl⟩
          rw [may_law]
          go_wp2_with fail
          go_ret
          exact ⟨rfl, Ext.trans HE.out ⟨_, rfl⟩⟩
        · have HM := hid (show muchN (allK t c b) y = 32 by unfold muchN; rw [HW.out, if_neg hn, if_pos h2])
          rw [HW.out, HM.out]
          go_wp2_with fail
          go_call (quiet_ext (find_any (allK t c b) (7, y, 0) base _ _ HLen.out (HK1.out _))) as e w' ⟨rfl, r2, rfl⟩
          go_wp2_with fail
          go_call (quiet_ext (awake_any _ (HS1.out _))) as e w' ⟨rfl, r3, rfl⟩
          go_wp2_with fail
          go_call (quiet_ext (may_any t c b x HX.out.1 HX.out.2 _ (HS1.out _))) as e w' ⟨rfl, r4, rfl⟩
          rw [may_law]
          go_wp2_with fail
          go_ret
          exact ⟨rfl, Ext.trans HE.out ⟨_, rfl⟩⟩
      · by_cases h3 : 9 ≤ y
        · by_cases h4 : y ≤ 72
          · have HW := hid (show wantN (allK t c b) y = findN (allK t c b) (9, y - 9, 0) by unfold wantN; rw [if_neg (by omega), if_pos ⟨h3, h4⟩])
            by_cases hn : findN (allK t c b) (9, y - 9, 0) < 0
            · have HM := hid (show muchN (allK t c b) y = 0 by unfold muchN; rw [HW.out, if_pos hn])
              rw [HW.out, HM.out]
              go_wp2_with fail
              go_call (quiet_ext (find_any (allK t c b) (9, y - 9, 0) base _ _ HLen.out (HK1.out _))) as e w' ⟨rfl, r2, rfl⟩
              go_wp2_with fail
              go_call (quiet_ext (awake_any _ (HS1.out _))) as e w' ⟨rfl, r3, rfl⟩
              go_wp2_with fail
              go_call (quiet_ext (may_any t c b x HX.out.1 HX.out.2 _ (HS1.out _))) as e w' ⟨rfl, r4, rfl⟩
              rw [may_law]
              go_wp2_with fail
              go_ret
              exact ⟨rfl, Ext.trans HE.out ⟨_, rfl⟩⟩
            · have HM := hid (show muchN (allK t c b) y = 10 by unfold muchN; rw [HW.out, if_neg hn, if_neg h2])
              rw [HW.out, HM.out]
              go_wp2_with fail
              go_call (quiet_ext (find_any (allK t c b) (9, y - 9, 0) base _ _ HLen.out (HK1.out _))) as e w' ⟨rfl, r2, rfl⟩
              go_wp2_with fail
              go_call (quiet_ext (awake_any _ (HS1.out _))) as e w' ⟨rfl, r3, rfl⟩
              go_wp2_with fail
              go_call (quiet_ext (may_any t c b x HX.out.1 HX.out.2 _ (HS1.out _))) as e w' ⟨rfl, r4, rfl⟩
              rw [may_law]
              go_wp2_with fail
              go_ret
              exact ⟨rfl, Ext.trans HE.out ⟨_, rfl⟩⟩
          · have HW := hid (show wantN (allK t c b) y = -1 by unfold wantN; rw [if_neg (by omega), if_neg (by omega)])
            have HM := hid (show muchN (allK t c b) y = 0 by unfold muchN; rw [HW.out, if_pos (by omega)])
            rw [HW.out, HM.out]
            go_wp2_with fail
            go_call (quiet_ext (awake_any _ (HS1.out _))) as e w' ⟨rfl, r3, rfl⟩
            go_wp2_with fail
            go_call (quiet_ext (may_any t c b x HX.out.1 HX.out.2 _ (HS1.out _))) as e w' ⟨rfl, r4, rfl⟩
            rw [may_law]
            go_wp2_with fail
            go_ret
            exact ⟨rfl, Ext.trans HE.out ⟨_, rfl⟩⟩
        · exact absurd h2 (by omega)
    · have HW := hid (show wantN (allK t c b) y = -1 by unfold wantN; rw [if_neg (by omega), if_neg (by omega)])
      have HM := hid (show muchN (allK t c b) y = 0 by unfold muchN; rw [HW.out, if_pos (by omega)])
      rw [HW.out, HM.out]
      go_wp2_with fail
      go_call (quiet_ext (awake_any _ (HS1.out _))) as e w' ⟨rfl, r3, rfl⟩
      go_wp2_with fail
      go_call (quiet_ext (may_any t c b x HX.out.1 HX.out.2 _ (HS1.out _))) as e w' ⟨rfl, r4, rfl⟩
      rw [may_law]
      go_wp2_with fail
      go_ret
      exact ⟨rfl, Ext.trans HE.out ⟨_, rfl⟩⟩

end Go.Proofs.YtoaghifcgjpijaaDoor
