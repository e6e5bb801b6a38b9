/- Walks of the reference of descriptors: Words, Fits. -/
import Derived.Test.YtojcojghnhibmaaDoorReadLaw
import Derived.Test.YtojcojghnhibmaaDoorDescF
import Derived.Test.YtojcojghnhibmaaDoorRefA
namespace Go.Proofs.YtojcojghnhibmaaDoor
set_option linter.unusedSimpArgs false
set_option linter.unusedVariables false
open Go.RowKit

theorem pkE (e : En) : packW e = [(e.loc, (if e.wr = true then 1 else 0), 0), (e.val, e.ver, 0), (e.new, 0, 0)] := rfl

theorem ws_append_b {ops : Array Oper} {rest : List Oper} {o : Oper} {a : Act} {Q : Exit → Act → World → Prop} {w : World} {base : Nat} {v : Value} {l : List Wd} (hgd : o.guard = none)
    (s x : Operand) (ho : o.op = .call { callee := .builtin .append, args := #[s, x], argTypes := #[36, 36] })
    (W : World) (hW : Ext W w) (hWb : W.heap.size ≤ base) (hbw : base ≤ w.heap.size) (hs : a.eval s = v) (hown : Ws w base v l)
    (ad : Addr) (m c : Nat) (hx : a.eval x = .slice (some ad) m c) (news : List Wd) (hm : news.length = m)
    (hnews : ∀ (j : Nat) (u : Value), (news.flatMap wdE)[j]? = some u → w.cell? (ad.add j) = some u)
    (hlen : l.length + m ≤ 1000000)
    (h : ∀ v' w', Ws w' base v' (l ++ news) → Ext W w' → Below base w w' → wpList Tryd.prog ops Q rest (a.put o.dst v') w') : wpList Tryd.prog ops Q (o :: rest) a w := by
  obtain ⟨i0, hi, hz0, hz1, hz2⟩ := info_parts Tryd.infoWord
  exact own_append_b Tryd.underlying36 hi hz0 hz1 hz2 rfl (by decide) wdE_len wdE_one hgd s x ho W hW hWb hbw hs hown ad m c hx news hm hnews (by unfold maxLen; omega) (by omega) h

set_option maxRecDepth 100000 in
set_option maxHeartbeats 2000000 in
theorem rwords_any (who seq st : Int) (h0 : 0 ≤ seq) (h1 : seq ≤ 4294967295) (es : List En) (v : Value) (h32 : es.length ≤ 100) (w : World) (hv : Es w v es) :
    Calls Tryd.prog 40 #[.agg #[.int .i64 who, .int .i64 seq, .int .i64 st, v]] w fun y w' => ∃ v', y = .returned v' ∧ (∃ r, w' = ext w r) ∧ Ws w' w.heap.size v' (wordsW seq st es) := by
  have HV := hid hv
  obtain ⟨a, cp, rfl, ⟨hm, hlc⟩, _⟩ := hv
  have hq : IntKind.u32.wrap seq = seq := wraps_u32w seq h0 (by omega)
  clear hm hlc
  go_enter Tryd.func40, Tryd.ntmps40
  go_wp2_with fail
  have hm9 := Own.made (e := 48) (enc := wdE) (size := 3) (base := w.heap.size + 1) (w := w.alloc (.cells #[.int .i64 who, .int .i64 seq, .int .i64 st, .slice a es.length cp] 51)) #[.int .i64 st, .int .u32 seq, .int .u32 0, .int .i64 (es.length : Int), .int .u32 0, .int .u32 0] [(st, seq, 0), ((es.length : Int), 0, 0)] 2 rfl (by simp) (by unfold maxLen; omega) rfl rfl
  simp only [size_ext, World.size_alloc] at hm9
  have HM := hid hm9
  have HB := hid (show Blk (w.alloc (.cells #[.int .i64 who, .int .i64 seq, .int .i64 st, .slice a es.length cp] 51)) w.heap.size [.int .i64 who, .int .i64 seq, .int .i64 st, .slice a es.length cp] by (show Blk _ _ _; repeat (first | with_reducible (refine Hid.out ?_; assumption) | with_reducible refine Blk.drew ?_ | with_reducible refine Blk.ext ?_ _ | (with_reducible refine Blk.new _ _ rfl ?_; first | with_reducible rfl | (simp; done)) | with_reducible refine Blk.alloc ?_ _ | with_reducible assumption | with_reducible apply Blk.setE | (with_reducible refine Blk.other' ?_ ?_; first | omega | (simp; omega)) | (show List.set _ _ _ = _; exact rfl) | (show _ < List.length _; simp; done))))
  clear hm9
  generalize hB0 : w.alloc (.cells #[.int .i64 who, .int .i64 seq, .int .i64 st, .slice a es.length cp] 51) = W at *
  have HW := hid (show Ext w W by rw [← hB0]; (show Ext _ _; repeat (first | with_reducible (refine Hid.out ?_; assumption) | with_reducible exact Ext.refl _ | with_reducible refine Ext.ext ?_ _ | with_reducible refine Ext.alloc ?_ _ | refine Ext.drew ?_ | refine Ext.drewN ?_ _ | exact Ext.refl _)))
  have HWs := hid (show W.heap.size = w.heap.size + 1 by rw [← hB0]; simp)
  clear hB0
  go_loopw [3, 4] (fun u i wr => ∃ j : Nat, j ≤ es.length ∧ i = .int .i64 j ∧ Hid (Ws wr (w.heap.size + 1) u ([(st, seq, 0), ((es.length : Int), 0, 0)] ++ bodyW (es.take j))) ∧ Hid (Ext W wr)) (fun _ i _ => es.length - (intOf i).toNat)
  case atStart => exact ⟨0, by omega, rfl, HM, hid (by (show Ext _ _; repeat (first | with_reducible (refine Hid.out ?_; assumption) | with_reducible exact Ext.refl _ | with_reducible refine Ext.ext ?_ _ | with_reducible refine Ext.alloc ?_ _ | refine Ext.drew ?_ | refine Ext.drewN ?_ _ | exact Ext.refl _)))⟩
  case round =>
    clear HM
    obtain ⟨j, hj, rfl, HO, HX⟩ := hrel
    have HXw := hid (HW.out.trans HX.out)
    have d3 := (HB.out.of HX.out).2.2 3 _ rfl
    have d4 := (HB.out.of HX.out).1
    by_cases hjl : j < es.length
    · have hd : decide (j < es.length) = true := decide_eq_true hjl
      have hx := List.getElem?_eq_getElem hjl
      generalize es[j] = e at hx
      obtain ⟨hnl, b0, o, hab, hbl, hcs⟩ := Sl.at (HV.out.of enE_len HXw.out) hx
      have HA := hid (bodyW_at hx)
      have HL := hid (show (([(st, seq, 0), ((es.length : Int), 0, 0)] : List Wd) ++ bodyW (es.take j)).length ≤ 1000 by rw [List.length_append, bodyW_len, List.length_take]; simp; omega)
      have HP := hid (pkE e)
      subst hab
      obtain ⟨loc, val, ver, ref, new, wr1⟩ := e
      have k0 := hcs 0 (by omega)
      have k1 := hcs 1 (by omega)
      have k2 := hcs 2 (by omega)
      have k3 := hcs 3 (by omega)
      have k4 := hcs 4 (by omega)
      have k5 := hcs 5 (by omega)
      simp [enE] at k0 k1 k2 k3 k4 k5
      clear hcs hnl hx
      obtain ⟨q, hq2⟩ : ∃ q : Int, q = if wr1 = true then 1 else 0 := ⟨_, rfl⟩
      have HQ := hid hq2
      clear hq2
      go_wp2_with fail
      refine (rentry_any loc val ver ref new wr1 _).mono ?_
      rintro y w' ⟨rfl, r3, rfl⟩
      rw [← HQ.out]
      obtain ⟨av, cv, hav⟩ := Own.shape HO.out
      subst hav
      have hsz := HX.out.size
      have HSz := hid (show w.heap.size + 1 ≤ wr.heap.size by have := HWs.out; omega)
      clear hsz
      go_wp2_with (at_builtin; refine ws_append_b rfl _ _ rfl W (HX.out.trans (by (show Ext _ _; repeat (first | with_reducible (refine Hid.out ?_; assumption) | with_reducible exact Ext.refl _ | with_reducible refine Ext.ext ?_ _ | with_reducible refine Ext.alloc ?_ _ | refine Ext.drew ?_ | refine Ext.drewN ?_ _ | exact Ext.refl _)))) (by rw [HWs.out]; exact Nat.le_refl _) (by have := HSz.out; simp only [World.size_alloc, size_ext]; omega) rfl (Own.alloc (Own.alloc (Own.ext HO.out _) _) _) _ 3 3 rfl [(loc, q, 0), (val, ver, 0), (new, 0, 0)] rfl (news_new rfl _ (by (first | rfl | (simp; done)))) (by have := HL.out; omega) ?_; rintro v9 w9 hv9 hX9 hB9; have HV9 := hid hv9; have HX9 := hid hX9; clear hv9 hX9 hB9)
      go_roundw
      case rel => exact ⟨j + 1, by omega, by go_num, hid (by rw [HA.out, HP.out, ← List.append_assoc]; (try dsimp only); rw [← HQ.out]; exact HV9.out), hid HX9.out⟩
      case measure => simp [intOf]; omega
    · have hd : decide (j < es.length) = false := decide_eq_false hjl
      obtain rfl : j = es.length := by omega
      have hO := HO.out
      rw [List.take_length] at hO
      have HO2 := hid (Own.mono hO (Nat.le_succ w.heap.size))
      clear hO
      go_wp2_with fail
      go_ret
      exact ⟨_, rfl, HXw.out, HO2.out⟩

/-- What the reference's Fits looks at one by one. -/
theorem fits_no {T B sl rm : Int} {ws : List Bool} {who seq st : Int} {es : List En} (h : (rplaceN T B sl rm who).1 < 0 ∨ seq < 1 ∨ 16777215 < seq ∨ st < 0 ∨ 3 < st ∨ (rplaceN T B sl rm who).2 < (es.length : Int) ∨ rightB es = false) : fitsB T B sl rm ws who seq st es = false := by
  cases hf : fitsB T B sl rm ws who seq st es
  · rfl
  · unfold fitsB at hf
    simp only [Bool.and_eq_true, decide_eq_true_eq] at hf
    obtain ⟨⟨⟨⟨⟨a1, a2⟩, a3⟩, a4⟩, a5⟩, a6⟩ := hf
    rcases h with h | h | h | h | h | h | h
    · omega
    · omega
    · omega
    · omega
    · omega
    · omega
    · rw [a5] at h; cases h
theorem fits_all {T B sl rm : Int} {ws : List Bool} {who seq st : Int} {es : List En} (h1 : ¬ (rplaceN T B sl rm who).1 < 0) (h2 : ¬ seq < 1) (h3 : ¬ 16777215 < seq) (h4 : ¬ st < 0) (h5 : ¬ 3 < st) (h6 : ¬ (rplaceN T B sl rm who).2 < (es.length : Int)) (h7 : rightB es = true) : fitsB T B sl rm ws who seq st es = es.all (fun e => rmayB ws e.loc) := by
  unfold fitsB
  rw [decide_eq_true (by omega), decide_eq_true (by omega), decide_eq_true (by omega), decide_eq_true (by omega), h7]; simp
theorem all_at {ws : List Bool} {es : List En} {j : Nat} {e : En} (h : es[j]? = some e) : (es.drop j).all (fun e => rmayB ws e.loc) = (rmayB ws e.loc && (es.drop (j + 1)).all (fun e => rmayB ws e.loc)) := by
  obtain ⟨hj, hk⟩ := List.getElem?_eq_some_iff.1 h
  rw [List.drop_eq_getElem_cons hj, hk]; rfl

set_option maxRecDepth 100000 in
set_option maxHeartbeats 4000000 in
theorem rfits_any (T B sl rm sz : Int) (hT : 0 ≤ T ∧ T ≤ 8) (hB : 0 ≤ B ∧ B ≤ 64) (hsl : 0 ≤ sl ∧ sl ≤ 100000) (hrm : 0 ≤ rm ∧ rm ≤ 100000) (ws : List Bool) (pv : Value) (who seq st : Int) (es : List En) (v : Value) (h32 : es.length ≤ 1000) (w : World) (hp : Sl w 1 boE pv ws) (hv : Es w v es) :
    Calls Tryd.prog 41 #[.agg #[.int .i64 T, .int .i64 B, .int .i64 sl, .int .i64 rm, .int .i64 104, .int .i64 32, pv, .int .i64 sz], .agg #[.int .i64 who, .int .i64 seq, .int .i64 st, v]] w
      fun y w' => y = .returned (.bool (fitsB T B sl rm ws who seq st es)) ∧ ∃ r, w' = ext w r := by
  have HV := hid hv
  have HPv := hid hp
  have HT := hid hT
  have HB := hid hB
  have HSl := hid hsl
  have HRm := hid hrm
  obtain ⟨a, cp, rfl, _, _⟩ := hv
  obtain ⟨pa, pc, rfl, _, _⟩ := hp
  obtain ⟨⟨q1, q2⟩, hq⟩ : ∃ q, q = rplaceN T B sl rm who := ⟨_, rfl⟩
  have HQ := hid hq
  have HNo := hid (fun h => fits_no (T := T) (B := B) (sl := sl) (rm := rm) (ws := ws) (who := who) (seq := seq) (st := st) (es := es) h)
  have HAll := hid (fun h1 h2 h3 h4 h5 h6 h7 => fits_all (T := T) (B := B) (sl := sl) (rm := rm) (ws := ws) (who := who) (seq := seq) (st := st) (es := es) h1 h2 h3 h4 h5 h6 h7)
  rw [← hq] at HNo HAll
  dsimp only at HNo HAll
  obtain ⟨n, hn⟩ : ∃ n, n = es.length := ⟨_, rfl⟩
  have HN := hid hn
  rw [← hn] at HV HNo HAll h32 ⊢
  clear hT hB hsl hrm hq hn
  have hcs : q1 < 0 ∨ (¬ q1 < 0 ∧ seq < 1) ∨ (¬ q1 < 0 ∧ ¬ seq < 1 ∧ 16777215 < seq) ∨ (¬ q1 < 0 ∧ ¬ seq < 1 ∧ ¬ 16777215 < seq ∧ st < 0) ∨ (¬ q1 < 0 ∧ ¬ seq < 1 ∧ ¬ 16777215 < seq ∧ ¬ st < 0 ∧ 3 < st) ∨ (¬ q1 < 0 ∧ ¬ seq < 1 ∧ ¬ 16777215 < seq ∧ ¬ st < 0 ∧ ¬ 3 < st ∧ q2 < (n : Int)) ∨ (¬ q1 < 0 ∧ ¬ seq < 1 ∧ ¬ 16777215 < seq ∧ ¬ st < 0 ∧ ¬ 3 < st ∧ ¬ q2 < (n : Int)) := by omega
  rcases hcs with h1 | ⟨h1, h2⟩ | ⟨h1, h2, h3⟩ | ⟨h1, h2, h3, h4⟩ | ⟨h1, h2, h3, h4, h5⟩ | ⟨h1, h2, h3, h4, h5, h6⟩ | ⟨h1, h2, h3, h4, h5, h6⟩
  · have HF := hid (HNo.out (by omega))
    go_enter Tryd.func41, Tryd.ntmps41
    go_wp2_with fail
    refine (rplace_any T B sl rm who _ sz HT.out HB.out HSl.out HRm.out _).mono ?_
    rintro e w' ⟨rfl, r1, rfl⟩
    rw [← HQ.out]
    dsimp only
    go_wp2_with fail
    go_ret
    exact ⟨ret_bool HF.out.symm, by (show Ext _ _; repeat (first | with_reducible (refine Hid.out ?_; assumption) | with_reducible exact Ext.refl _ | with_reducible refine Ext.ext ?_ _ | with_reducible refine Ext.alloc ?_ _ | refine Ext.drew ?_ | refine Ext.drewN ?_ _ | exact Ext.refl _))⟩
  · have HF := hid (HNo.out (by omega))
    go_enter Tryd.func41, Tryd.ntmps41
    go_wp2_with fail
    refine (rplace_any T B sl rm who _ sz HT.out HB.out HSl.out HRm.out _).mono ?_
    rintro e w' ⟨rfl, r1, rfl⟩
    rw [← HQ.out]
    dsimp only
    go_wp2_with fail
    go_ret
    exact ⟨ret_bool HF.out.symm, by (show Ext _ _; repeat (first | with_reducible (refine Hid.out ?_; assumption) | with_reducible exact Ext.refl _ | with_reducible refine Ext.ext ?_ _ | with_reducible refine Ext.alloc ?_ _ | refine Ext.drew ?_ | refine Ext.drewN ?_ _ | exact Ext.refl _))⟩
  · have HF := hid (HNo.out (by omega))
    go_enter Tryd.func41, Tryd.ntmps41
    go_wp2_with fail
    refine (rplace_any T B sl rm who _ sz HT.out HB.out HSl.out HRm.out _).mono ?_
    rintro e w' ⟨rfl, r1, rfl⟩
    rw [← HQ.out]
    dsimp only
    go_wp2_with fail
    go_ret
    exact ⟨ret_bool HF.out.symm, by (show Ext _ _; repeat (first | with_reducible (refine Hid.out ?_; assumption) | with_reducible exact Ext.refl _ | with_reducible refine Ext.ext ?_ _ | with_reducible refine Ext.alloc ?_ _ | refine Ext.drew ?_ | refine Ext.drewN ?_ _ | exact Ext.refl _))⟩
  · have HF := hid (HNo.out (by omega))
    go_enter Tryd.func41, Tryd.ntmps41
    go_wp2_with fail
    refine (rplace_any T B sl rm who _ sz HT.out HB.out HSl.out HRm.out _).mono ?_
    rintro e w' ⟨rfl, r1, rfl⟩
    rw [← HQ.out]
    dsimp only
    go_wp2_with fail
    go_ret
    exact ⟨ret_bool HF.out.symm, by (show Ext _ _; repeat (first | with_reducible (refine Hid.out ?_; assumption) | with_reducible exact Ext.refl _ | with_reducible refine Ext.ext ?_ _ | with_reducible refine Ext.alloc ?_ _ | refine Ext.drew ?_ | refine Ext.drewN ?_ _ | exact Ext.refl _))⟩
  · have HF := hid (HNo.out (by omega))
    go_enter Tryd.func41, Tryd.ntmps41
    go_wp2_with fail
    refine (rplace_any T B sl rm who _ sz HT.out HB.out HSl.out HRm.out _).mono ?_
    rintro e w' ⟨rfl, r1, rfl⟩
    rw [← HQ.out]
    dsimp only
    go_wp2_with fail
    go_ret
    exact ⟨ret_bool HF.out.symm, by (show Ext _ _; repeat (first | with_reducible (refine Hid.out ?_; assumption) | with_reducible exact Ext.refl _ | with_reducible refine Ext.ext ?_ _ | with_reducible refine Ext.alloc ?_ _ | refine Ext.drew ?_ | refine Ext.drewN ?_ _ | exact Ext.refl _))⟩
  · have HF := hid (HNo.out (by omega))
    go_enter Tryd.func41, Tryd.ntmps41
    go_wp2_with fail
    refine (rplace_any T B sl rm who _ sz HT.out HB.out HSl.out HRm.out _).mono ?_
    rintro e w' ⟨rfl, r1, rfl⟩
    rw [← HQ.out]
    dsimp only
    go_wp2_with fail
    go_ret
    exact ⟨ret_bool HF.out.symm, by (show Ext _ _; repeat (first | with_reducible (refine Hid.out ?_; assumption) | with_reducible exact Ext.refl _ | with_reducible refine Ext.ext ?_ _ | with_reducible refine Ext.alloc ?_ _ | refine Ext.drew ?_ | refine Ext.drewN ?_ _ | exact Ext.refl _))⟩
  · go_enter Tryd.func41, Tryd.ntmps41
    go_wp2_with fail
    refine (rplace_any T B sl rm who _ sz HT.out HB.out HSl.out HRm.out _).mono ?_
    rintro e w' ⟨rfl, r1, rfl⟩
    rw [← HQ.out]
    dsimp only
    go_wp2_with fail
    refine (rright_any es _ _ (HV.out.of enE_len (by (show Ext _ _; repeat (first | with_reducible (refine Hid.out ?_; assumption) | with_reducible exact Ext.refl _ | with_reducible refine Ext.ext ?_ _ | with_reducible refine Ext.alloc ?_ _ | refine Ext.drew ?_ | refine Ext.drewN ?_ _ | exact Ext.refl _)))) (by rw [← HN.out]; exact h32)).mono ?_
    rintro e w' ⟨rfl, r2, rfl⟩
    cases hrb : rightB es
    · have HF := hid (HNo.out (.inr (.inr (.inr (.inr (.inr (.inr hrb)))))))
      clear hrb
      go_wp2_with fail
      go_ret
      exact ⟨ret_bool HF.out.symm, by (show Ext _ _; repeat (first | with_reducible (refine Hid.out ?_; assumption) | with_reducible exact Ext.refl _ | with_reducible refine Ext.ext ?_ _ | with_reducible refine Ext.alloc ?_ _ | refine Ext.drew ?_ | refine Ext.drewN ?_ _ | exact Ext.refl _))⟩
    · have HF := hid (show fitsB T B sl rm ws who seq st es = (es.drop 0).all (fun e => rmayB ws e.loc) from HAll.out h1 h2 h3 h4 h5 h6 hrb)
      clear hrb HNo HAll
      generalize hW : ext _ r2 = W
      have HB3 := hid (show Blk W (w.heap.size + 1) [.int .i64 who, .int .i64 seq, .int .i64 st, .slice a n cp] by rw [← hW]; (show Blk _ _ _; repeat (first | with_reducible (refine Hid.out ?_; assumption) | with_reducible refine Blk.drew ?_ | with_reducible refine Blk.ext ?_ _ | (with_reducible refine Blk.new _ _ rfl ?_; first | with_reducible rfl | (simp; done)) | with_reducible refine Blk.alloc ?_ _ | with_reducible assumption | with_reducible apply Blk.setE | (with_reducible refine Blk.other' ?_ ?_; first | omega | (simp; omega)) | (show List.set _ _ _ = _; exact rfl) | (show _ < List.length _; simp; done))))
      have HB2 := hid (show Blk W w.heap.size [.int .i64 T, .int .i64 B, .int .i64 sl, .int .i64 rm, .int .i64 104, .int .i64 32, .slice pa ws.length pc, .int .i64 sz] by rw [← hW]; (show Blk _ _ _; repeat (first | with_reducible (refine Hid.out ?_; assumption) | with_reducible refine Blk.drew ?_ | with_reducible refine Blk.ext ?_ _ | (with_reducible refine Blk.new _ _ rfl ?_; first | with_reducible rfl | (simp; done)) | with_reducible refine Blk.alloc ?_ _ | with_reducible assumption | with_reducible apply Blk.setE | (with_reducible refine Blk.other' ?_ ?_; first | omega | (simp; omega)) | (show List.set _ _ _ = _; exact rfl) | (show _ < List.length _; simp; done))))
      have HW := hid (show Ext w W by rw [← hW]; (show Ext _ _; repeat (first | with_reducible (refine Hid.out ?_; assumption) | with_reducible exact Ext.refl _ | with_reducible refine Ext.ext ?_ _ | with_reducible refine Ext.alloc ?_ _ | refine Ext.drew ?_ | refine Ext.drewN ?_ _ | exact Ext.refl _)))
      clear hW
      go_wp2_with fail
      go_loopw [7] (fun i wr => ∃ j : Nat, j ≤ n ∧ i = .int .i64 j ∧ Hid (fitsB T B sl rm ws who seq st es = (es.drop j).all (fun e => rmayB ws e.loc)) ∧ Hid (Ext W wr)) (fun i _ => n - (intOf i).toNat)
      case atStart => exact ⟨0, by omega, rfl, HF, hid (by (show Ext _ _; repeat (first | with_reducible (refine Hid.out ?_; assumption) | with_reducible exact Ext.refl _ | with_reducible refine Ext.ext ?_ _ | with_reducible refine Ext.alloc ?_ _ | refine Ext.drew ?_ | refine Ext.drewN ?_ _ | exact Ext.refl _)))⟩
      case round =>
        clear HF
        obtain ⟨j, hj, rfl, HF, HX⟩ := hrel
        have HXw := hid (HW.out.trans HX.out)
        obtain ⟨c0, c1, c2, c3, c4, c5, c6, c7⟩ := (HB2.out.of HX.out).eight
        have d3 := (HB3.out.of HX.out).2.2 3 _ rfl
        have d4 := (HB3.out.of HX.out).1
        have c8 := (HB2.out.of HX.out).1
        by_cases hjl : j < n
        · have hd : decide (j < n) = true := decide_eq_true hjl
          have hx := List.getElem?_eq_getElem (show j < es.length by have := HN.out; omega)
          generalize es[j]'(by have := HN.out; omega) = e at hx
          have HA := hid (all_at (ws := ws) hx)
          obtain ⟨hnl, b0, o, hab, hbl, hcs⟩ := Sl.at (HV.out.of enE_len HXw.out) hx
          subst hab
          have k0 := hcs 0 (by omega)
          simp [enE] at k0
          obtain ⟨loc, val, ver, ref, new, wr1⟩ := e
          dsimp only at k0
          clear hcs hnl hx
          obtain ⟨mb, hmb⟩ : ∃ mb, mb = rmayB ws loc := ⟨_, rfl⟩
          have HMb := hid (fun w hp => by have := rmay_any T B sl rm 104 32 sz ws (.slice pa ws.length pc) loc w hp; rw [← hmb] at this; exact this)
          have HM2 := hid hmb
          clear hmb
          have hjj : (j : Int) < (n : Int) := by omega
          cases mb
          · have HR := hid (show fitsB T B sl rm ws who seq st es = false by rw [HF.out, HA.out, ← HM2.out]; rfl)
            clear HF HA
            go_wp2_with fail
            refine region_ext (by kernel_rfl) (by kernel_rfl) ?_
            repeat (go_big_quiet_step ((go_at_call 24; exact quiet_ext (HMb.out _ (HPv.out.of boE_len (HXw.out.trans (by (show Ext _ _; repeat (first | with_reducible (refine Hid.out ?_; assumption) | with_reducible exact Ext.refl _ | with_reducible refine Ext.ext ?_ _ | with_reducible refine Ext.alloc ?_ _ | refine Ext.drew ?_ | refine Ext.drewN ?_ _ | exact Ext.refl _)))))))))
            refine wpQuiet_nil ?_
            rintro _ ⟨r4, rfl⟩
            go_wp2_with fail
            go_ret
            exact ⟨ret_bool HR.out.symm, HXw.out.trans (by (show Ext _ _; repeat (first | with_reducible (refine Hid.out ?_; assumption) | with_reducible exact Ext.refl _ | with_reducible refine Ext.ext ?_ _ | with_reducible refine Ext.alloc ?_ _ | refine Ext.drew ?_ | refine Ext.drewN ?_ _ | exact Ext.refl _)))⟩
          · have HR := hid (show fitsB T B sl rm ws who seq st es = (es.drop (j + 1)).all (fun e => rmayB ws e.loc) by rw [HF.out, HA.out, ← HM2.out]; rfl)
            clear HF HA
            go_wp2_with fail
            refine region_ext (by kernel_rfl) (by kernel_rfl) ?_
            repeat (go_big_quiet_step ((go_at_call 24; exact quiet_ext (HMb.out _ (HPv.out.of boE_len (HXw.out.trans (by (show Ext _ _; repeat (first | with_reducible (refine Hid.out ?_; assumption) | with_reducible exact Ext.refl _ | with_reducible refine Ext.ext ?_ _ | with_reducible refine Ext.alloc ?_ _ | refine Ext.drew ?_ | refine Ext.drewN ?_ _ | exact Ext.refl _)))))))))
            refine wpQuiet_nil ?_
            rintro _ ⟨r4, rfl⟩
            go_wp2_with fail
            go_roundw
            case rel => exact ⟨j + 1, by omega, by go_num, HR, hid (HX.out.trans (by (show Ext _ _; repeat (first | with_reducible (refine Hid.out ?_; assumption) | with_reducible exact Ext.refl _ | with_reducible refine Ext.ext ?_ _ | with_reducible refine Ext.alloc ?_ _ | refine Ext.drew ?_ | refine Ext.drewN ?_ _ | exact Ext.refl _))))⟩
            case measure => simp [intOf]; omega
        · have hd : decide (j < n) = false := decide_eq_false hjl
          have HR := hid (show fitsB T B sl rm ws who seq st es = true by have := HN.out; rw [HF.out, List.drop_eq_nil_of_le (by omega)]; rfl)
          clear HF
          go_wp2_with fail
          go_ret
          exact ⟨ret_bool HR.out.symm, HXw.out⟩

end Go.Proofs.YtojcojghnhibmaaDoor
