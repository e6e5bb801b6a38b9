/- Walks of package desc: Words. Arrays of three words compared; the walk of package desc's Unpack. -/
import Derived.Test.YtiacdohaiidehaaGreatDoorPk27
namespace Go.Proofs.YtiacdohaiidehaaGreatDoor
set_option linter.unusedSimpArgs false
set_option linter.unusedVariables false
open Go.RowKit
theorem wdE_one (e : Wd) : ∀ u ∈ wdE e, u.oneCell' = true := by
 intro u hu
 simp only [wdE, List.mem_cons, List.not_mem_nil, or_false] at hu
 rcases hu with rfl | rfl | rfl <;> rfl
theorem ws_append {ops : Array Oper} {rest : List Oper} {o : Oper} {a : Act} {Q : Exit → Act → World → Prop} {w : World} {base : Nat} {v : Value} {l : List Wd} (hgd : o.guard = none)
 (s x : Operand) (ho : o.op = .call { callee := .builtin .append, args := #[s, x], argTypes := #[82, 82] })
 (W : World) (hW : Ext W w) (hWb : W.heap.size ≤ base) (hbw : base ≤ w.heap.size) (hs : a.eval s = v) (hown : Ws w base v l)
 (ad : Addr) (m c : Nat) (hx : a.eval x = .slice (some ad) m c) (news : List Wd) (hm : news.length = m)
 (hnews : ∀ (j : Nat) (u : Value), (news.flatMap wdE)[j]? = some u → w.cell? (ad.add j) = some u)
 (hlen : l.length + m ≤ 1000000)
 (h : ∀ v' r, Ws (ext W r) base v' (l ++ news) → wpList Tryz.prog ops Q rest (a.put o.dst v') (ext W r)) : wpList Tryz.prog ops Q (o :: rest) a w := by
 obtain ⟨i0, hi, hz0, hz1, hz2⟩ := info_parts Tryz.infoWord
 exact own_append Tryz.underlying82 hi hz0 hz1 hz2 rfl (by decide) wdE_len wdE_one hgd s x ho W hW hWb hbw hs hown ad m c hx news hm hnews (by unfold maxLen; omega) (by omega) h
def bodyW (es : List En) : List Wd := es.flatMap packW
def wordsW (seq st : Int) (es : List En) : List Wd := [(st, seq, 0), ((es.length : Int), 0, 0)] ++ bodyW es
theorem packW_len (e : En) : (packW e).length = 3 := rfl
theorem bodyW_len (es : List En) : (bodyW es).length = 3 * es.length := by
 unfold bodyW
 induction es with
 | nil => rfl
 | cons x r ih => rw [List.flatMap_cons, List.length_append, ih, packW_len, List.length_cons]; omega
theorem bodyW_at {es : List En} {j : Nat} {e : En} (h : es[j]? = some e) : bodyW (es.take (j + 1)) = bodyW (es.take j) ++ packW e := by
 obtain ⟨hj, hk⟩ := List.getElem?_eq_some_iff.1 h
 unfold bodyW
 rw [List.take_succ_eq_append_getElem hj, hk, List.flatMap_append]
 simp
theorem dcheck_ok {t c b who seq st : Int} {es : List En} (h : dcheckN t c b who seq st es = 0) : checkN t c b = 0 ∧ (placeN t c b who).2 ≠ 0 ∧ (1 ≤ seq ∧ seq ≤ 16777215) ∧ (0 ≤ st ∧ st ≤ 3) ∧ checkE es = 0 ∧ sortB es = true ∧ mayAll t c b es = true ∧ (es.length : Int) ≤ (placeN t c b who).2 := by
 unfold dcheckN at h
 split at h
 ·cases h
 rename_i h1
 split at h
 ·cases h
 rename_i h2
 split at h
 ·cases h
 rename_i h3
 split at h
 ·cases h
 rename_i h4
 split at h
 ·rename_i h5; exact absurd h h5
 rename_i h5
 split at h
 ·cases h
 rename_i h6
 split at h
 ·cases h
 rename_i h7
 split at h
 ·cases h
 rename_i h8
 exact ⟨by simpa using h1, h2, by omega, by omega, by simpa using h5, by simpa using h6, by simpa using h7, by omega⟩
set_option maxRecDepth 100000 in
set_option maxHeartbeats 2000000 in
theorem dwords_any (t c b who seq st : Int) (hw1 : -9223372036854775808 ≤ who) (hw2 : who ≤ 9223372036854775807) (es : List En) (v : Value) (hok : ∀ e ∈ es, EnOk e) (w : World) (hs : Szs w) (hv : Es w v es) :
 Calls Tryz.prog 73 #[.agg #[.int .i64 t, .int .i64 c, .int .i64 b], .agg #[.int .i64 who, .int .i64 seq, .int .i64 st, v]] w fun y w' => ∃ v', y = .returned (.tuple #[v', .int .i64 (dcheckN t c b who seq st es)]) ∧ (∃ r, w' = ext w r) ∧
  Ws w' w.heap.size v' (if dcheckN t c b who seq st es = 0 then wordsW seq st es else []) := by
 have HV := hid hv
 have HS := hid hs
 have HO := hid hok
 obtain ⟨a, cp, rfl, ⟨hm, hlc⟩, _⟩ := hv
 clear hs hok
 by_cases h0 : dcheckN t c b who seq st es = 0
 rotate_left
 ·rw [if_neg h0]
  obtain ⟨q, hq⟩ : ∃ q, q = dcheckN t c b who seq st es := ⟨_, rfl⟩
  have HQ := hid hq
  rw [← hq] at h0 ⊢
  clear hq
  have hb : (q != 0) = true := by simpa using h0
  clear h0
  go_enter Tryz.func73, Tryz.ntmps73
  go_wp2_with fail
  go_call (dcheck_any t c b who seq st hw1 hw2 es _ HO.out _ (HS.out.of (by exact exP)) (HV.out.of enE_len (by exact exP))) as y w' ⟨rfl, r1, rfl⟩
  rw [← HQ.out]
  go_wp2_with fail
  go_ret2
  exact ⟨_, rfl, by exact exP, Own.nil⟩
 ·rw [if_pos h0]
  obtain ⟨_, _, ⟨hq1, hq2⟩, ⟨ht1, ht2⟩, he, _, _, _⟩ := dcheck_ok h0
  obtain ⟨_, _, hl32⟩ := check_loc he
  have H0 := hid h0
  rw [h0]
  clear h0 he
  go_enter Tryz.func73, Tryz.ntmps73
  go_wp2_with fail
  go_call (dcheck_any t c b who seq st hw1 hw2 es _ HO.out _ (HS.out.of (by exact exP)) (HV.out.of enE_len (by exact exP))) as y w' ⟨rfl, r1, rfl⟩
  rw [H0.out]
  go_wp2_with fail
  refine wp_region_held_drew (S := fun w' => Ext w w' ∧ w'.cell? ⟨w.heap.size + 1, 1, none⟩ = some (.int .i64 seq) ∧ w'.cell? ⟨w.heap.size + 1, 2, none⟩ = some (.int .i64 st) ∧ w'.cell? ⟨w.heap.size + 1, 3, none⟩ = some (.slice a es.length cp)) (by kernel_rfl) (⟨by exact exP, by simp [go_sem], by simp [go_sem], by simp [go_sem]⟩) (fun hHeld => ?_)
  refine tkm 0 (v := ?_) rfl ?_ ?_
  rotate_left 1
  ·intro w hSw
   try dsimp only at hSw
   go_simp
   try with_reducible rfl
  (try simp only [Act.put, pA, pB, pC])
  refine tkm 1 (v := ?_) rfl ?_ ?_
  rotate_left 1
  ·intro w hSw
   try dsimp only at hSw
   go_simp
   try with_reducible rfl
  (try simp only [Act.put, pA, pB, pC])
  refine tkm 2 (v := ?_) rfl ?_ ?_
  rotate_left 1
  ·intro w hSw
   try dsimp only at hSw
   go_simp
   try with_reducible rfl
  (try simp only [Act.put, pA, pB, pC])
  refine tkm 3 (v := ?_) rfl ?_ ?_
  rotate_left 1
  ·intro w hSw
   try dsimp only at hSw
   go_simp
   try with_reducible rfl
  (try simp only [Act.put, pA, pB, pC])
  refine tkm 5 (v := ?_) rfl ?_ ?_
  rotate_left 1
  ·intro w hSw
   try dsimp only at hSw
   go_simp
   try with_reducible rfl
  (try simp only [Act.put, pA, pB, pC])
  refine tkm 6 (v := ?_) rfl ?_ ?_
  rotate_left 1
  ·intro w hSw
   try dsimp only at hSw
   go_simp
   try with_reducible rfl
  (try simp only [Act.put, pA, pB, pC])
  refine tkm 7 (v := ?_) rfl ?_ ?_
  rotate_left 1
  ·intro w hSw
   try dsimp only at hSw
   go_simp
   try with_reducible rfl
  (try simp only [Act.put, pA, pB, pC])
  refine tkm 8 (v := ?_) rfl ?_ ?_
  rotate_left 1
  ·intro w hSw
   try dsimp only at hSw
   go_simp
   try with_reducible rfl
  (try simp only [Act.put, pA, pB, pC])
  refine take_only 4 (oi := ⟨_, _, _, _, _, _⟩) (by kernel_rfl) rfl (fun K hK => ?_)
  go_simp
  first
   | (go_at_call 93; refine (status_any st seq (by omega) (by omega) _).mono ?_; rintro e w' ⟨rfl, r2, rfl⟩)
  have hOld := hHeld
  clear hHeld
  refine hK.out _ _ (⟨by exact exP, by simp [go_sem], by simp [go_sem], by simp [go_sem]⟩) (fun hHeld => ?_)
  clear hOld hK K
  (try simp only [Act.put, pA, pB, pC])
  refine take_only 9 (oi := ⟨_, _, _, _, _, _⟩) (by kernel_rfl) rfl (fun K hK => ?_)
  go_simp
  have hOld := hHeld
  clear hHeld
  refine hK.out _ _ (⟨by exact exP, by simp [go_sem], by simp [go_sem], by simp [go_sem]⟩) (fun hHeld => ?_)
  clear hOld hK K
  (try simp only [Act.put, pA, pB, pC])
  refine tkm 10 (v := ?_) rfl ?_ ?_
  rotate_left 1
  ·intro w hSw
   try dsimp only at hSw
   go_simp
   try with_reducible rfl
  (try simp only [Act.put, pA, pB, pC])
  refine wpAnyH_done (by kernel_rfl) ?_ _
  clear hHeld
  have hm9 := Own.made (e := 44) (enc := wdE) (size := 3) (base := w.heap.size) (w := (ext (ext ((w.alloc (.cells #[.int .i64 t, .int .i64 c, .int .i64 b] 30)).alloc (.cells #[.int .i64 who, .int .i64 seq, .int .i64 st, .slice a es.length cp] 162)) r1) r2)) #[.int .i64 st, .int .u32 seq, .int .u32 0, .int .i64 (es.length : Int), .int .u32 0, .int .u32 0] [(st, seq, 0), ((es.length : Int), 0, 0)] 2 rfl (by simp; omega) (by unfold maxLen; omega) rfl rfl
  simp only [size_ext, World.size_alloc] at hm9
  have HM := hid hm9
  clear hm9
  go_wp2_with fail
  go_loopw [7, 30] (fun u i wr => ∃ j : Nat, j ≤ es.length ∧ i = .int .i64 j ∧ Ws wr w.heap.size u ([(st, seq, 0), ((es.length : Int), 0, 0)] ++ bodyW (es.take j)) ∧ Ext w wr) (fun _ i _ => es.length - (intOf i).toNat)
  case atStart => exact ⟨0, by omega, rfl, HM.out, by exact exP⟩
  case round =>
   clear HM
   obtain ⟨j, hj, rfl, hown, r, rfl⟩ := hrel
   by_cases hjl : j < es.length
   ·have hd : decide (j < es.length) = true := decide_eq_true hjl
    obtain ⟨hnl, b0, o, hab, hbl, hcs⟩ := Sl.at HV.out (List.getElem?_eq_getElem hjl)
    have HX := hid (List.getElem?_eq_getElem hjl)
    generalize es[j] = e at hcs HX
    have HA := hid (bodyW_at HX.out)
    have HL := hid (show (([(st, seq, 0), ((es.length : Int), 0, 0)] : List Wd) ++ bodyW (es.take j)).length ≤ 1000 by rw [List.length_append, bodyW_len, List.length_take]; simp; omega)
    subst hab
    obtain ⟨loc, val, ver, ref, new, wr1⟩ := e
    have k0 := hcs 0 (by omega)
    have k1 := hcs 1 (by omega)
    have k2 := hcs 2 (by omega)
    have k3 := hcs 3 (by omega)
    have k4 := hcs 4 (by omega)
    have k5 := hcs 5 (by omega)
    simp [enE] at k0 k1 k2 k3 k4 k5
    have HO2 := hid hown
    clear hcs hnl hown
    cases wr1
    ·go_wp2_with fail
     go_call (pack_any loc val ver ref new _ _) as y w' ⟨rfl, r3, rfl⟩
     simp only [if_true, Bool.false_eq_true, if_false]
     go_wp2_with (at_builtin; refine ws_append rfl _ _ rfl w (by exact exP) (Nat.le_refl _) (by (first | exact Nat.le_refl _ | (simp; done) | (simp; omega))) rfl (Own.alloc (Own.ext (Own.alloc HO2.out _) _) _) _ 3 3 rfl (packW ⟨loc, val, ver, ref, new, false⟩) rfl (news_new rfl _ (by (first | rfl | (simp; done)))) (by have := HL.out; omega) ?_; rintro v' r' hv')
     go_roundw
     case rel => exact ⟨j + 1, by omega, by go_num, by rw [HA.out, ← List.append_assoc]; exact hv', by exact exP⟩
     case measure => simp [intOf]; omega
    ·go_wp2_with fail
     go_call (pack_any loc val ver ref new _ _) as y w' ⟨rfl, r3, rfl⟩
     simp only [if_true, Bool.false_eq_true, if_false]
     go_wp2_with (at_builtin; refine ws_append rfl _ _ rfl w (by exact exP) (Nat.le_refl _) (by (first | exact Nat.le_refl _ | (simp; done) | (simp; omega))) rfl (Own.alloc (Own.ext (Own.alloc HO2.out _) _) _) _ 3 3 rfl (packW ⟨loc, val, ver, ref, new, true⟩) rfl (news_new rfl _ (by (first | rfl | (simp; done)))) (by have := HL.out; omega) ?_; rintro v' r' hv')
     go_roundw
     case rel => exact ⟨j + 1, by omega, by go_num, by rw [HA.out, ← List.append_assoc]; exact hv', by exact exP⟩
     case measure => simp [intOf]; omega
   ·have hd : decide (j < es.length) = false := decide_eq_false hjl
    obtain rfl : j = es.length := by omega
    rw [List.take_length] at hown
    go_wp2_with fail
    go_ret2
    exact ⟨_, rfl, by exact exP, hown⟩
open Go.RowKit
theorem eqIn_word (x1 x2 x3 k1 k2 k3 : Int) (w : World) : (Op.equalIn 9999 44 (.agg #[.int .i64 x1, .int .u32 x2, .int .u32 x3]) (.agg #[.int .i64 k1, .int .u32 k2, .int .u32 k3])).run Tryz.prog w = .ok (wdB (x1, x2, x3) (k1, k2, k3)) w := by
 unfold wdB
 have hp : Tryz.prog.stoodInHeld 44 = false := by kernel_rfl
 rw [run_equalIn_struct w 9998 _ _ _ (by kernel_rfl) hp]
 by_cases h1 : x1 = k1
 ·by_cases h2 : x2 = k2
  ·by_cases h3 : x3 = k3
   all_goals simp [Op.eqFields, Program.fieldsOf, Tryz.underlying44, go_sem, h1, h2, h3]
  ·simp [Op.eqFields, Program.fieldsOf, Tryz.underlying44, go_sem, h1, h2]
 ·simp [Op.eqFields, Program.fieldsOf, Tryz.underlying44, go_sem, h1]
set_option maxRecDepth 100000 in
set_option maxHeartbeats 4000000 in
theorem eqIn_arr (a1 a2 a3 a4 a5 a6 a7 a8 a9 b1 b2 b3 b4 b5 b6 b7 b8 b9 : Int) (w : World) :
 (Op.equalIn 10000 151 (.agg #[.int .i64 a1, .int .u32 a2, .int .u32 a3, .int .i64 a4, .int .u32 a5, .int .u32 a6, .int .i64 a7, .int .u32 a8, .int .u32 a9]) (.agg #[.int .i64 b1, .int .u32 b2, .int .u32 b3, .int .i64 b4, .int .u32 b5, .int .u32 b6, .int .i64 b7, .int .u32 b8, .int .u32 b9])).run Tryz.prog w = .ok (wdB (a1, a2, a3) (b1, b2, b3) && wdB (a4, a5, a6) (b4, b5, b6) && wdB (a7, a8, a9) (b7, b8, b9)) w := by
 rw [Op.equalIn]
 simp only [Sem.run_bind, run_underlying Tryz.underlying151, Result.andThen_ok]
 have e1 := eqIn_word a1 a2 a3 b1 b2 b3
 have e2 := eqIn_word a4 a5 a6 b4 b5 b6
 have e3 := eqIn_word a7 a8 a9 b7 b8 b9
 have hr : List.range' 0 3 = [0, 1, 2] := rfl
 generalize hp : wdB (a1, a2, a3) (b1, b2, b3) = p at *
 generalize hq : wdB (a4, a5, a6) (b4, b5, b6) = q at *
 generalize hs : wdB (a7, a8, a9) (b7, b8, b9) = s at *
 simp only [wdB] at hp hq hs
 simp only [Std.Legacy.Range.forIn_eq_forIn_range', go_sem]
 simp only [Std.Legacy.Range.size, hr, Nat.sub_zero, Nat.add_sub_cancel, Nat.div_one]
 cases p <;> cases q <;> cases s <;> simp only [decide_eq_true_eq, decide_eq_false_iff_not, Prod.mk.injEq] at hp hq hs
 all_goals
  simp [go_sem, List.forIn_cons]
 all_goals
  simp_all
theorem neq_arr (a1 a2 a3 a4 a5 a6 a7 a8 a9 b1 b2 b3 b4 b5 b6 b7 b8 b9 : Int) (w : World) :
 (binOp .neq 151 (.agg #[.int .i64 a1, .int .u32 a2, .int .u32 a3, .int .i64 a4, .int .u32 a5, .int .u32 a6, .int .i64 a7, .int .u32 a8, .int .u32 a9]) (.agg #[.int .i64 b1, .int .u32 b2, .int .u32 b3, .int .i64 b4, .int .u32 b5, .int .u32 b6, .int .i64 b7, .int .u32 b8, .int .u32 b9])).run Tryz.prog w = .ok (.bool (!(wdB (a1, a2, a3) (b1, b2, b3) && wdB (a4, a5, a6) (b4, b5, b6) && wdB (a7, a8, a9) (b7, b8, b9)))) w := by
 rw [run_neq_struct, eqIn_arr]; rfl
theorem eq_guard_arr (op : BinOp) (x y : Operand) (xs ys : Array Value) (w : World) : (eqGuard op 151 x y (.agg xs) (.agg ys)).run Tryz.prog w = .ok () w :=
 run_eqGuard_agg w op _ x y xs ys (by kernel_rfl)
def unpackB (x y z : Wd) : Bool := decide (0 ≤ x.1 ∧ x.1 < 4096) && (decide (x.2.1 = 0 ∨ x.2.1 = 1) && decide (x.2.2 = 0) && decide (y.2.2 = 0) && decide (z.2.1 = 0) && decide (z.2.2 = 0))
def unpackE (x y z : Wd) : En := ⟨x.1, y.1, y.2.1, y.2.2, z.1, x.2.1 == 1⟩
theorem unpack_eq (x y z : Wd) : (wdB (x.1, (if (x.2.1 == 1) = true then 1 else 0), 0) x && wdB (y.1, y.2.1, 0) y && wdB (z.1, 0, 0) z) = (decide (x.2.1 = 0 ∨ x.2.1 = 1) && decide (x.2.2 = 0) && decide (y.2.2 = 0) && decide (z.2.1 = 0) && decide (z.2.2 = 0)) := by
 obtain ⟨x1, x2, x3⟩ := x
 obtain ⟨y1, y2, y3⟩ := y
 obtain ⟨z1, z2, z3⟩ := z
 simp only [wdB, Prod.mk.injEq, true_and]
 rw [Bool.eq_iff_iff]
 simp only [Bool.and_eq_true, decide_eq_true_eq]
 constructor
 ·rintro ⟨⟨⟨h1, h2⟩, h3⟩, h4, h5⟩
  split at h1 <;> simp_all
 ·rintro ⟨⟨⟨⟨h1, h2⟩, h3⟩, h4⟩, h5⟩
  rcases h1 with h1 | h1 <;> simp_all
set_option maxRecDepth 100000 in
set_option maxHeartbeats 4000000 in
theorem unpack_any (x1 x2 x3 y1 y2 y3 z1 z2 z3 : Int) (w : World) :
 Calls Tryz.prog 145 #[.agg #[.int .i64 x1, .int .u32 x2, .int .u32 x3, .int .i64 y1, .int .u32 y2, .int .u32 y3, .int .i64 z1, .int .u32 z2, .int .u32 z3]] w fun e w' =>
  (e = if unpackB (x1, x2, x3) (y1, y2, y3) (z1, z2, z3) = true then .returned (.tuple #[.agg #[.int .i64 x1, .int .i64 y1, .int .u32 y2, .int .u32 y3, .int .i64 z1, .bool (x2 == 1)], .bool true])
   else .returned (.tuple #[.agg #[.int .i64 0, .int .i64 0, .int .u32 0, .int .u32 0, .int .i64 0, .bool false], .bool false])) ∧ ∃ r, w' = ext w r := by
 have hna := neq_arr
 have hga := eq_guard_arr
 by_cases hr : 0 ≤ x1 ∧ x1 < 4096
 rotate_left
 ·have HR := hid (show unpackB (x1, x2, x3) (y1, y2, y3) (z1, z2, z3) = false by unfold unpackB; rw [decide_eq_false hr]; rfl)
  have hc : x1 < 0 ∨ (¬ x1 < 0 ∧ 4096 ≤ x1) := by omega
  rw [HR.out]
  simp only [Bool.false_eq_true, if_false]
  clear hr
  rcases hc with h1 | ⟨h1, h2⟩
  all_goals
   go_enter Tryz.func145, Tryz.ntmps145
   (repeat (first | go_values | go_skip | go_guarded | go_step | go_upon | (simp only [Int.not_lt, Int.not_le] at *; go_simp) | (go_ite <;> go_prune <;> (try go_simp))))
   exact bodyPost_ret (v := .tuple #[.agg #[.int .i64 0, .int .i64 0, .int .u32 0, .int .u32 0, .int .i64 0, .bool false], .bool false]) (by simp [results, Tryz.results145, go_sem]) rfl ⟨rfl, by (show Ext _ _; repeat first | (with_reducible first | (refine xH ?_; assumption) | exact xR _ | refine xX ?_ _ | refine xA ?_ _) | refine xD ?_ | refine xN ?_ _ | refine xS ?_ (by (try dsimp only); first | omega | (simp; done) | (simp; omega)) _)⟩
 ·have hn1 : ¬ x1 < 0 := by omega
  have hn2 : ¬ 4096 ≤ x1 := by omega
  have HU := hid (show unpackB (x1, x2, x3) (y1, y2, y3) (z1, z2, z3) = (wdB (x1, (if (x2 == 1) = true then 1 else 0), 0) (x1, x2, x3) && wdB (y1, y2, 0) (y1, y2, y3) && wdB (z1, 0, 0) (z1, z2, z3)) by
   rw [unpack_eq (x1, x2, x3) (y1, y2, y3) (z1, z2, z3)]; unfold unpackB; rw [decide_eq_true hr]; rfl)
  clear hr
  by_cases hx2 : x2 = 1
  ·subst hx2
   have hbq : (1 == (1 : Int)) = true := by simp
   rw [hbq] at HU ⊢
   have HU2 := hid (show unpackB (x1, 1, x3) (y1, y2, y3) (z1, z2, z3) = (wdB (x1, 1, 0) (x1, 1, x3) && wdB (y1, y2, 0) (y1, y2, y3) && wdB (z1, 0, 0) (z1, z2, z3)) from HU.out)
   clear HU
   cases h1 : wdB (x1, 1, 0) (x1, 1, x3) <;> cases h2 : wdB (y1, y2, 0) (y1, y2, y3) <;> cases h3 : wdB (z1, 0, 0) (z1, z2, z3)
   all_goals
    have HV := HU2.out
    rw [h1, h2, h3] at HV
    rw [HV]
    clear HV HU2
    simp only [Bool.and_true, Bool.and_false, Bool.false_eq_true, if_true, if_false]
    go_enter Tryz.func145, Tryz.ntmps145
    go_wp2_with fail
    refine region_ext (by kernel_rfl) (by kernel_rfl) ?_
    repeat (go_big_quiet_step ((go_at_call 94; exact quiet_ext (pack_any x1 y1 y2 y3 z1 true _))))
    refine wpQuiet_nil ?_
    rintro _ ⟨r4, rfl⟩
    go_wp2_with fail
    first
     | exact bodyPost_ret (v := .tuple #[.agg #[.int .i64 0, .int .i64 0, .int .u32 0, .int .u32 0, .int .i64 0, .bool false], .bool false]) (by simp [results, Tryz.results145, go_sem]) rfl ⟨rfl, by exact exF⟩
     | exact bodyPost_ret (v := .tuple #[.agg #[.int .i64 x1, .int .i64 y1, .int .u32 y2, .int .u32 y3, .int .i64 z1, .bool true], .bool true]) (by simp [results, Tryz.results145, go_sem]) rfl ⟨rfl, by exact exF⟩
  ·skip
   have hbq : (x2 == (1 : Int)) = false := by simp [hx2]
   rw [hbq] at HU ⊢
   have HU2 := hid (show unpackB (x1, x2, x3) (y1, y2, y3) (z1, z2, z3) = (wdB (x1, 0, 0) (x1, x2, x3) && wdB (y1, y2, 0) (y1, y2, y3) && wdB (z1, 0, 0) (z1, z2, z3)) from HU.out)
   clear HU hx2
   cases h1 : wdB (x1, 0, 0) (x1, x2, x3) <;> cases h2 : wdB (y1, y2, 0) (y1, y2, y3) <;> cases h3 : wdB (z1, 0, 0) (z1, z2, z3)
   all_goals
    have HV := HU2.out
    rw [h1, h2, h3] at HV
    rw [HV]
    clear HV HU2
    simp only [Bool.and_true, Bool.and_false, Bool.false_eq_true, if_true, if_false]
    go_enter Tryz.func145, Tryz.ntmps145
    go_wp2_with fail
    refine region_ext (by kernel_rfl) (by kernel_rfl) ?_
    repeat (go_big_quiet_step ((go_at_call 94; exact quiet_ext (pack_any x1 y1 y2 y3 z1 false _))))
    refine wpQuiet_nil ?_
    rintro _ ⟨r4, rfl⟩
    go_wp2_with fail
    first
     | exact bodyPost_ret (v := .tuple #[.agg #[.int .i64 0, .int .i64 0, .int .u32 0, .int .u32 0, .int .i64 0, .bool false], .bool false]) (by simp [results, Tryz.results145, go_sem]) rfl ⟨rfl, by exact exF⟩
     | exact bodyPost_ret (v := .tuple #[.agg #[.int .i64 x1, .int .i64 y1, .int .u32 y2, .int .u32 y3, .int .i64 z1, .bool false], .bool true]) (by simp [results, Tryz.results145, go_sem]) rfl ⟨rfl, by exact exF⟩
end Go.Proofs.YtiacdohaiidehaaGreatDoor
