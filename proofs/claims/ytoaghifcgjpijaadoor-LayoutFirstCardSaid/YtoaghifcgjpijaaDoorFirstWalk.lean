/- The walk of LayoutFirst. -/
import Derived.Test.YtoaghifcgjpijaaDoorPlacesWalk
import Derived.Deep.RegionHeld3
namespace Go.Proofs.YtoaghifcgjpijaaDoor
open Go.RowKit

/-- The law's own word on an initial word. -/
def wantW (k : Kd) : Wd := if (k.1 = 7 ∨ k.1 = 9) ∧ k.2.2 = 0 then (2, 0, 0) else if k.1 = 2 then (1, 0, 0) else (0, 0, 0)

theorem first1_get (t c b : Int) (n P k i : Nat) (hP : fromN t c b 4 = P) (hP2 : 2 ≤ P) (hi : i < n) :
    (first1 t c b n k)[i]? = some (if i = 1 then (1, 0, 0) else if P ≤ i ∧ (i - P) % 104 = 0 ∧ (i - P) / 104 < k then (2, 0, 0) else (0, 0, 0)) := by
  induction k with
  | zero =>
    simp only [first1, first0, List.getElem?_set, List.getElem?_replicate, List.length_replicate]
    by_cases h1 : 1 = i
    · subst h1; simp [hi]
    · rw [if_neg h1, if_pos hi, if_neg (by omega), if_neg (by omega)]
  | succ k ih =>
    simp only [first1, List.getElem?_set, first1_len]
    rw [hP, show ((P : Int) + (k : Int) * 104).toNat = P + k * 104 by omega]
    by_cases h1 : P + k * 104 = i
    · rw [if_pos h1, if_pos (by omega), if_neg (by omega), if_pos (by omega)]
    · rw [if_neg h1, ih]
      congr 1
      by_cases h2 : i = 1
      · rw [if_pos h2, if_pos h2]
      · rw [if_neg h2, if_neg h2]
        by_cases h3 : P ≤ i ∧ (i - P) % 104 = 0 ∧ (i - P) / 104 < k
        · rw [if_pos h3, if_pos (by omega)]
        · rw [if_neg h3, if_neg (by omega)]

theorem first2_get (t c b : Int) (n T P Q k i : Nat) (hP : fromN t c b 4 = P) (hP2 : 2 ≤ P) (hQ : fromN t c b 6 = Q) (hPQ : P + 104 * T ≤ Q) (hi : i < n) :
    (first2 t c b n T k)[i]? = some (if i = 1 then (1, 0, 0) else if P ≤ i ∧ (i - P) % 104 = 0 ∧ (i - P) / 104 < T then (2, 0, 0) else if Q ≤ i ∧ (i - Q) % 32 = 0 ∧ (i - Q) / 32 < k then (2, 0, 0) else (0, 0, 0)) := by
  induction k with
  | zero =>
    simp only [first2]
    rw [first1_get t c b n P T i hP hP2 hi]
    congr 1
    by_cases h2 : i = 1
    · rw [if_pos h2, if_pos h2]
    · rw [if_neg h2, if_neg h2]
      by_cases h3 : P ≤ i ∧ (i - P) % 104 = 0 ∧ (i - P) / 104 < T
      · rw [if_pos h3, if_pos h3]
      · rw [if_neg h3, if_neg h3, if_neg (by omega)]
  | succ k ih =>
    simp only [first2, List.getElem?_set, first2_len]
    rw [hQ, show ((Q : Int) + (k : Int) * 32).toNat = Q + k * 32 by omega]
    by_cases h1 : Q + k * 32 = i
    · rw [if_pos h1, if_pos (by omega), if_neg (by omega), if_neg (by omega), if_pos (by omega)]
    · rw [if_neg h1, ih]
      congr 1
      by_cases h2 : i = 1
      · rw [if_pos h2, if_pos h2]
      · rw [if_neg h2, if_neg h2]
        by_cases h3 : P ≤ i ∧ (i - P) % 104 = 0 ∧ (i - P) / 104 < T
        · rw [if_pos h3, if_pos h3]
        · rw [if_neg h3, if_neg h3]
          by_cases h4 : Q ≤ i ∧ (i - Q) % 32 = 0 ∧ (i - Q) / 32 < k
          · rw [if_pos h4, if_pos (by omega)]
          · rw [if_neg h4, if_neg (by omega)]

theorem first_len (t c b : Int) : (firstL t c b).length = (allK t c b).length := by
  rcases lay_cases t c b with ⟨hr, hk⟩ | ⟨T, C, B, rfl, rfl, rfl, hr, hk, _⟩
  · simp [hk, firstL, hr]
  · rw [hk]
    simp only [firstL, hr, if_true, first2_len]
    have := allL_from T C B
    omega

theorem first_law (t c b : Int) (i : Nat) (k : Kd) (hk : (allK t c b)[i]? = some k) : (firstL t c b)[i]? = some (wantW k) := by
  rcases lay_cases t c b with ⟨hr, ha⟩ | ⟨T, C, B, rfl, rfl, rfl, hr, ha, _⟩
  · rw [ha] at hk; simp at hk
  · rw [ha] at hk
    have hi : i < (allL T C B).length := (List.getElem?_eq_some_iff.1 hk).1
    rw [allL_get _ _ _ _ hi] at hk
    have hk := Option.some.inj hk
    obtain ⟨f0, f1, f2, f3, f4, f5, f6⟩ := from_vals T C B
    have hl := allL_from T C B
    have hl2 := allL_len T C B
    simp only [firstL, hr, if_true, Int.toNat_natCast]
    rw [first2_get T C B _ T (8 + 16 * T + C + padN C) (8 + 16 * T + C + padN C + 104 * T + (if 0 < B then 8 else 0)) B i (by rw [f4]; simp) (by omega) (by rw [f6]; simp) (by omega) (by omega)]
    congr 1
    rw [← hk]
    clear hk f0 f1 f2 f3 f4 f5 f6 hr ha hl
    unfold kindAt
    by_cases c1 : i < 8
    · rw [if_pos c1]
      by_cases c2 : i = 0
      · rw [if_pos c2, if_neg (by omega), if_neg (by omega), if_neg (by omega)]; rfl
      · rw [if_neg c2]
        by_cases c3 : i = 1
        · rw [if_pos c3, if_pos c3]; rfl
        · rw [if_neg c3, if_neg c3, if_neg (by omega), if_neg (by omega)]; rfl
    rw [if_neg c1, if_neg (show ¬ i = 1 by omega)]
    by_cases c2 : i < 8 + 8 * T
    · rw [if_pos c2, if_neg (by omega), if_neg (by omega)]
      by_cases c3 : (i - 8) % 8 = 0
      · rw [if_pos c3]; simp [wantW]
      · rw [if_neg c3]
        by_cases c4 : (i - 8) % 8 = 1
        · rw [if_pos c4]; simp [wantW]
        · rw [if_neg c4]; simp [wantW]
    rw [if_neg c2]
    by_cases c3 : i < 8 + 16 * T
    · rw [if_pos c3, if_neg (by omega), if_neg (by omega)]
      by_cases c4 : (i - (8 + 8 * T)) % 8 < 3
      · rw [if_pos c4]; simp [wantW]
      · rw [if_neg c4]; simp [wantW]
    rw [if_neg c3]
    by_cases c4 : i < 8 + 16 * T + C
    · rw [if_pos c4, if_neg (by omega), if_neg (by omega)]; simp [wantW]
    rw [if_neg c4]
    by_cases c5 : i < 8 + 16 * T + C + padN C
    · rw [if_pos c5, if_neg (by omega), if_neg (by omega)]; simp [wantW]
    rw [if_neg c5]
    by_cases c6 : i < 8 + 16 * T + C + padN C + 104 * T
    · rw [if_pos c6]
      by_cases c7 : (i - (8 + 16 * T + C + padN C)) % 104 = 0
      · rw [if_pos (by omega)]; simp [wantW, c7]
      · rw [if_neg (by omega), if_neg (by omega)]
        unfold wantW
        rw [if_neg (by simp only []; omega), if_neg (by simp)]
    rw [if_neg c6, if_neg (show ¬ (8 + 16 * T + C + padN C ≤ i ∧ (i - (8 + 16 * T + C + padN C)) % 104 = 0 ∧ (i - (8 + 16 * T + C + padN C)) / 104 < T) by omega)]
    by_cases c7 : i < 8 + 16 * T + C + padN C + 104 * T + (if 0 < B then 8 else 0)
    · rw [if_pos c7, if_neg (by omega)]
      by_cases c8 : i = 8 + 16 * T + C + padN C + 104 * T
      · rw [if_pos c8]; simp [wantW]
      · rw [if_neg c8]
        by_cases c9 : i = 8 + 16 * T + C + padN C + 104 * T + 1
        · rw [if_pos c9]; simp [wantW]
        · rw [if_neg c9]; simp [wantW]
    · rw [if_neg c7]
      generalize hX : 8 + 16 * T + C + padN C + 104 * T + (if 0 < B then 8 else 0) = X at *
      by_cases c8 : (i - X) % 32 = 0
      · rw [if_pos (by omega)]; simp [wantW, c8]
      · rw [if_neg (by omega)]
        unfold wantW
        rw [if_neg (by simp only []; omega), if_neg (by simp)]

/-- Plain: are the words equal? (closed to simp) -/
def wdB (x k : Wd) : Bool := decide (x = k)
theorem neq_word (x1 x2 x3 k1 k2 k3 : Int) (w : World) : (binOp .neq 53 (.agg #[.int .i64 x1, .int .u32 x2, .int .u32 x3]) (.agg #[.int .i64 k1, .int .u32 k2, .int .u32 k3])).run Tryd.prog w = .ok (.bool (!wdB (x1, x2, x3) (k1, k2, k3))) w := by
  unfold wdB
  have hp : Tryd.prog.stoodInHeld 53 = false := by kernel_rfl
  rw [run_neq_struct, run_equalIn_struct w 9999 _ _ _ (by kernel_rfl) hp]
  by_cases h1 : x1 = k1
  · by_cases h2 : x2 = k2
    · by_cases h3 : x3 = k3
      all_goals simp [Op.eqFields, Program.fieldsOf, Tryd.underlying53, go_sem, h1, h2, h3]
    · simp [Op.eqFields, Program.fieldsOf, Tryd.underlying53, go_sem, h1, h2]
  · simp [Op.eqFields, Program.fieldsOf, Tryd.underlying53, go_sem, h1]
theorem eq_guard_word (op : BinOp) (x y : Operand) (xs ys : Array Value) (w : World) : (eqGuard op 53 x y (.agg xs) (.agg ys)).run Tryd.prog w = .ok () w :=
  run_eqGuard_agg w op _ x y xs ys (by kernel_rfl)
theorem wdB_self (x : Wd) : wdB x x = true := decide_eq_true rfl

theorem Ws.of {w w' : World} {base : Nat} {v : Value} {l : List Wd} (h : Ws w base v l) (he : Ext w w') : Ws w' base v l := by
  obtain ⟨r, rfl⟩ := he; exact Own.ext h r

set_option maxRecDepth 100000 in
set_option maxHeartbeats 4000000 in
theorem lfirst_any (t c b : Int) (w : World) (hs : Szs w) :
    Calls Tryd.prog 7 #[.agg #[.int .i64 t, .int .i64 c, .int .i64 b]] w fun e w' => e = .returned (.bool true) ∧ ∃ r, w' = ext w r := by
  have HS := hid hs
  have HLen := hid (allK_len t c b)
  have HFL := hid (first_len t c b)
  clear hs
  go_enter Tryd.func7, Tryd.ntmps7
  go_wp2_with fail
  go_region_held3 (fun w' => w'.cell? ⟨w.heap.size, 0, none⟩ = some (.int .i64 t) ∧ w'.cell? ⟨w.heap.size, 1, none⟩ = some (.int .i64 c) ∧ w'.cell? ⟨w.heap.size, 2, none⟩ = some (.int .i64 b))
    (exact ⟨by simp [go_sem], by simp [go_sem], by simp [go_sem]⟩)
    (first
      | (go_at_call 13; refine (lall_any t c b _).mono ?_; rintro e w' ⟨v, rfl, ⟨r, rfl⟩, hv⟩)
      | (go_at_call 27; refine (first_any t c b _ (HS.out.of (by (show Ext _ _; repeat (first | exact Ext.refl _ | refine Ext.ext ?_ _ | refine Ext.alloc ?_ _ | refine Ext.drew ?_ | refine Ext.drewN ?_ _))))).mono ?_; rintro e w' ⟨v2, rfl, ⟨r2, rfl⟩, hv2⟩))
  have hE : Ext w (ext (ext (w.alloc (.cells #[.int .i64 t, .int .i64 c, .int .i64 b] 23)) r) r2) := by (show Ext _ _; repeat (first | exact Ext.refl _ | refine Ext.ext ?_ _ | refine Ext.alloc ?_ _ | refine Ext.drew ?_ | refine Ext.drewN ?_ _))
  have hK : Ks (ext (ext (w.alloc (.cells #[.int .i64 t, .int .i64 c, .int .i64 b] 23)) r) r2) w.heap.size v (allK t c b) := Own.mono (Own.ext hv r2) (by simp)
  have hW : Ws (ext (ext (w.alloc (.cells #[.int .i64 t, .int .i64 c, .int .i64 b] 23)) r) r2) w.heap.size v2 (firstL t c b) := Own.mono hv2 (by simp; omega)
  have hSz := HS.out.of hE
  clear hv hv2
  rename_i hHeld
  clear hHeld
  generalize ext (ext (w.alloc (.cells #[.int .i64 t, .int .i64 c, .int .i64 b] 23)) r) r2 = W at *
  obtain ⟨a, cp, hsh⟩ := Own.shape hK
  obtain ⟨a2, cp2, hsh2⟩ := Own.shape hW
  rw [HFL.out] at hsh2
  subst hsh hsh2
  have HK := hid hK
  have HW := hid hW
  have HE := hid hE
  have HS2 := hid hSz
  have hek := neq_word
  have heg := eq_guard_word
  obtain ⟨n, hn⟩ : ∃ n, n = (allK t c b).length := ⟨_, rfl⟩
  rw [← hn]
  have HN := hid hn
  have hnb : n ≤ 100000 := by rw [hn]; exact HLen.out
  have hnn : ((n : Int) != (n : Int)) = false := by simp
  clear hK hW hE hSz HS r r2 hn
  go_wp2_with fail
  go_loopw [19] (fun i wr => ∃ j : Nat, j ≤ n ∧ i = .int .i64 j ∧ Ext W wr) (fun i _ => n - (intOf i).toNat)
  case atStart => exact ⟨0, by omega, rfl, by (show Ext _ _; repeat (first | exact Ext.refl _ | refine Ext.ext ?_ _ | refine Ext.alloc ?_ _ | refine Ext.drew ?_ | refine Ext.drewN ?_ _))⟩
  case round =>
    obtain ⟨j, hj, rfl, r, rfl⟩ := hrel
    by_cases hjn : j < n
    · have hd : decide (j < n) = true := decide_eq_true hjn
      have hjl : j < (allK t c b).length := by have := HN.out; omega
      obtain ⟨g, cc, hg, hgl, hc⟩ := Own.cellsAt kdE_len HK.out (List.getElem?_eq_getElem hjl)
      have hfl := first_law t c b j _ (List.getElem?_eq_getElem hjl)
      obtain ⟨g2, cc2, hg2, hgl2, hc2⟩ := Own.cellsAt wdE_len HW.out hfl
      generalize (allK t c b)[j] = kd at hc hc2 hfl
      obtain ⟨k1, k2, k3⟩ := kd
      simp only [Value.slice.injEq] at hg hg2
      obtain ⟨rfl, -, -⟩ := hg
      obtain ⟨rfl, -, -⟩ := hg2
      have c0 := hc 0 (by omega)
      have c1 := hc 1 (by omega)
      have c2 := hc 2 (by omega)
      have e0 := hc2 0 (by omega)
      have e1 := hc2 1 (by omega)
      have e2 := hc2 2 (by omega)
      simp only [kdE, Nat.add_zero] at c0 c1 c2
      simp only [wdE, Nat.add_zero] at e0 e1 e2
      simp at c0 c1 c2 e0 e1 e2
      clear hc hc2 hfl
      by_cases h7 : k1 = 7
      · by_cases h0 : k3 = 0
        · have hw : wantW (k1, k2, k3) = (2, 0, 0) := by simp [wantW, h7, h0]
          rw [hw] at e0 e1 e2
          subst h7 h0
          have hwb : wdB (2, 0, 0) (2, 0, 0) = true := wdB_self _
          clear hw
          go_wp2_with fail
          refine region_ext (by kernel_rfl) (by kernel_rfl) ?_
          repeat (go_big_quiet_step (fail))
          refine wpQuiet_nil ?_
          rintro _ ⟨r3, rfl⟩
          go_wp2_with fail
          go_roundw
          case rel => exact ⟨j + 1, by omega, by go_num, by (show Ext _ _; repeat (first | exact Ext.refl _ | refine Ext.ext ?_ _ | refine Ext.alloc ?_ _ | refine Ext.drew ?_ | refine Ext.drewN ?_ _))⟩
          case measure => simp [intOf]; omega
        · have hw : wantW (k1, k2, k3) = (0, 0, 0) := by simp [wantW, h7, h0]
          rw [hw] at e0 e1 e2
          subst h7
          have hwb : wdB (0, 0, 0) (0, 0, 0) = true := wdB_self _
          have h0' : (k3 == 0) = false := by simpa using h0
          clear hw h0
          go_wp2_with fail
          refine region_ext (by kernel_rfl) (by kernel_rfl) ?_
          repeat (go_big_quiet_step (fail))
          refine wpQuiet_nil ?_
          rintro _ ⟨r3, rfl⟩
          go_wp2_with fail
          go_roundw
          case rel => exact ⟨j + 1, by omega, by go_num, by (show Ext _ _; repeat (first | exact Ext.refl _ | refine Ext.ext ?_ _ | refine Ext.alloc ?_ _ | refine Ext.drew ?_ | refine Ext.drewN ?_ _))⟩
          case measure => simp [intOf]; omega
      · have h7' : (k1 == 7) = false := by simpa using h7
        by_cases h9 : k1 = 9
        · by_cases h0 : k3 = 0
          · have hw : wantW (k1, k2, k3) = (2, 0, 0) := by simp [wantW, h9, h0]
            rw [hw] at e0 e1 e2
            subst h9 h0
            have hwb : wdB (2, 0, 0) (2, 0, 0) = true := wdB_self _
            clear hw h7 h7'
            go_wp2_with fail
            refine region_ext (by kernel_rfl) (by kernel_rfl) ?_
            repeat (go_big_quiet_step (fail))
            refine wpQuiet_nil ?_
            rintro _ ⟨r3, rfl⟩
            go_wp2_with fail
            go_roundw
            case rel => exact ⟨j + 1, by omega, by go_num, by (show Ext _ _; repeat (first | exact Ext.refl _ | refine Ext.ext ?_ _ | refine Ext.alloc ?_ _ | refine Ext.drew ?_ | refine Ext.drewN ?_ _))⟩
            case measure => simp [intOf]; omega
          · have hw : wantW (k1, k2, k3) = (0, 0, 0) := by simp [wantW, h9, h0]
            rw [hw] at e0 e1 e2
            subst h9
            have hwb : wdB (0, 0, 0) (0, 0, 0) = true := wdB_self _
            have h0' : (k3 == 0) = false := by simpa using h0
            clear hw h0 h7 h7'
            go_wp2_with fail
            refine region_ext (by kernel_rfl) (by kernel_rfl) ?_
            repeat (go_big_quiet_step (fail))
            refine wpQuiet_nil ?_
            rintro _ ⟨r3, rfl⟩
            go_wp2_with fail
            go_roundw
            case rel => exact ⟨j + 1, by omega, by go_num, by (show Ext _ _; repeat (first | exact Ext.refl _ | refine Ext.ext ?_ _ | refine Ext.alloc ?_ _ | refine Ext.drew ?_ | refine Ext.drewN ?_ _))⟩
            case measure => simp [intOf]; omega
        · have h9' : (k1 == 9) = false := by simpa using h9
          by_cases h2 : k1 = 2
          · have hw : wantW (k1, k2, k3) = (1, 0, 0) := by simp [wantW, h2]
            rw [hw] at e0 e1 e2
            subst h2
            have hwb : wdB (1, 0, 0) (1, 0, 0) = true := wdB_self _
            clear hw h7 h9 h7' h9'
            go_wp2_with fail
            refine region_ext (by kernel_rfl) (by kernel_rfl) ?_
            repeat (go_big_quiet_step (fail))
            refine wpQuiet_nil ?_
            rintro _ ⟨r3, rfl⟩
            go_wp2_with fail
            go_roundw
            case rel => exact ⟨j + 1, by omega, by go_num, by (show Ext _ _; repeat (first | exact Ext.refl _ | refine Ext.ext ?_ _ | refine Ext.alloc ?_ _ | refine Ext.drew ?_ | refine Ext.drewN ?_ _))⟩
            case measure => simp [intOf]; omega
          · have hw : wantW (k1, k2, k3) = (0, 0, 0) := by simp [wantW, h7, h9, h2]
            rw [hw] at e0 e1 e2
            have hwb : wdB (0, 0, 0) (0, 0, 0) = true := wdB_self _
            have h2' : (k1 == 2) = false := by simpa using h2
            clear hw h7 h9 h2
            go_wp2_with fail
            refine region_ext (by kernel_rfl) (by kernel_rfl) ?_
            repeat (go_big_quiet_step (fail))
            refine wpQuiet_nil ?_
            rintro _ ⟨r3, rfl⟩
            go_wp2_with fail
            go_roundw
            case rel => exact ⟨j + 1, by omega, by go_num, by (show Ext _ _; repeat (first | exact Ext.refl _ | refine Ext.ext ?_ _ | refine Ext.alloc ?_ _ | refine Ext.drew ?_ | refine Ext.drewN ?_ _))⟩
            case measure => simp [intOf]; omega
    · have hd : decide (j < n) = false := decide_eq_false hjn
      go_wp2_with fail
      go_call (quiet_ext (awake_any _ (HS2.out.ext _))) as e w' ⟨rfl, r3, rfl⟩
      go_wp2_with fail
      go_ret
      exact ⟨rfl, Ext.trans HE.out ⟨_, rfl⟩⟩

end Go.Proofs.YtoaghifcgjpijaaDoor
