/- Walks of the reference of descriptors: Words, Fits. The walk of the reference's Read of descriptors. The walk of the reference's Logical; plain: it answers as the code's. Plain: a status set to Done turns the logical words of the installed written entries, and of no others. Walks of the reference of layer 25: Words and Clean. The walk of the reference's Clean of layer 25. Plain: the reference's recovered words are the code's (the layout of law 20). -/
import Derived.Test.YtfijnpfhffhffaaDoorReadLaw
import Derived.Test.YtfijnpfhffhffaaDoorDescF
import Derived.Test.YtfijnpfhffhffaaDoorRefA
import Derived.Test.YtfijnpfhffhffaaDoorDescL
import Derived.Test.YtfijnpfhffhffaaDoorOwn
import Derived.Test.YtfijnpfhffhffaaDoorAwkA
import Derived.Test.YtfijnpfhffhffaaDoorLogB
import Derived.Test.YtfijnpfhffhffaaDoorSlD
import Derived.Test.YtfijnpfhffhffaaDoorRedB
import Derived.Test.YtfijnpfhffhffaaDoorModA
import Derived.Test.YtfijnpfhffhffaaDoorRedL
namespace Go.Proofs.YtfijnpfhffhffaaDoor
set_option linter.unusedSimpArgs false
set_option linter.unusedVariables false
open Go.RowKit

theorem pkE (e : En) : packW e = [(e.loc, (if e.wr = true then 1 else 0), 0), (e.val, e.ver, 0), (e.new, 0, 0)] := rfl

theorem ws_append_b {ops : Array Oper} {rest : List Oper} {o : Oper} {a : Act} {Q : Exit → Act → World → Prop} {w : World} {base : Nat} {v : Value} {l : List Wd} (hgd : o.guard = none)
    (s x : Operand) (ho : o.op = .call { callee := .builtin .append, args := #[s, x], argTypes := #[31, 31] })
    (W : World) (hW : Ext W w) (hWb : W.heap.size ≤ base) (hbw : base ≤ w.heap.size) (hs : a.eval s = v) (hown : Ws w base v l)
    (ad : Addr) (m c : Nat) (hx : a.eval x = .slice (some ad) m c) (news : List Wd) (hm : news.length = m)
    (hnews : ∀ (j : Nat) (u : Value), (news.flatMap wdE)[j]? = some u → w.cell? (ad.add j) = some u)
    (hlen : l.length + m ≤ 1000000)
    (h : ∀ v' w', Ws w' base v' (l ++ news) → Ext W w' → Below base w w' → wpList Tryd.prog ops Q rest (a.put o.dst v') w') : wpList Tryd.prog ops Q (o :: rest) a w := by
  obtain ⟨i0, hi, hz0, hz1, hz2⟩ := info_parts Tryd.infoWord
  exact own_append_b Tryd.underlying31 hi hz0 hz1 hz2 rfl (by decide) wdE_len wdE_one hgd s x ho W hW hWb hbw hs hown ad m c hx news hm hnews (by unfold maxLen; omega) (by omega) h

set_option maxRecDepth 100000 in
set_option maxHeartbeats 2000000 in
theorem rfw_any (who seq st : Int) (h0 : 0 ≤ seq) (h1 : seq ≤ 4294967295) (es : List En) (v : Value) (h32 : es.length ≤ 100) (w : World) (hv : Es w v es) :
    Calls Tryd.prog 67 #[.agg #[.int .i64 who, .int .i64 seq, .int .i64 st, v]] w fun y w' => ∃ v', y = .returned v' ∧ (∃ r, w' = ext w r) ∧ Ws w' w.heap.size v' (wordsW seq st es) := by
  have HV := hid hv
  obtain ⟨a, cp, rfl, ⟨hm, hlc⟩, _⟩ := hv
  have hq : IntKind.u32.wrap seq = seq := wraps_u32w seq h0 (by omega)
  clear hm hlc
  go_enter Tryd.func67, Tryd.ntmps67
  go_wp2_with fail
  have hm9 := Own.made (e := 60) (enc := wdE) (size := 3) (base := w.heap.size + 1) (w := w.alloc (.cells #[.int .i64 who, .int .i64 seq, .int .i64 st, .slice a es.length cp] 110)) #[.int .i64 st, .int .u32 seq, .int .u32 0, .int .i64 (es.length : Int), .int .u32 0, .int .u32 0] [(st, seq, 0), ((es.length : Int), 0, 0)] 2 rfl (by simp) (by unfold maxLen; omega) rfl rfl
  simp only [size_ext, World.size_alloc] at hm9
  have HM := hid hm9
  have HB := hid (show Blk (w.alloc (.cells #[.int .i64 who, .int .i64 seq, .int .i64 st, .slice a es.length cp] 110)) w.heap.size [.int .i64 who, .int .i64 seq, .int .i64 st, .slice a es.length cp] by (show Blk _ _ _; repeat (first | with_reducible (refine Hid.out ?_; assumption) | with_reducible refine Blk.drew ?_ | with_reducible refine Blk.ext ?_ _ | (with_reducible refine Blk.new _ _ rfl ?_; first | with_reducible rfl | (simp; done)) | with_reducible refine Blk.alloc ?_ _ | with_reducible assumption | with_reducible apply Blk.setE | (with_reducible refine Blk.other' ?_ ?_; first | omega | (simp; omega)) | (show List.set _ _ _ = _; exact rfl) | (show _ < List.length _; simp; done))))
  clear hm9
  generalize hB0 : w.alloc (.cells #[.int .i64 who, .int .i64 seq, .int .i64 st, .slice a es.length cp] 110) = W at *
  have HW := hid (show Ext w W by rw [← hB0]; (show Ext _ _; repeat (first | with_reducible (refine Hid.out ?_; assumption) | with_reducible exact Ext.refl _ | with_reducible refine Ext.ext ?_ _ | with_reducible refine Ext.alloc ?_ _ | refine Ext.drew ?_ | refine Ext.drewN ?_ _ | exact Ext.refl _)))
  have HWs := hid (show W.heap.size = w.heap.size + 1 by rw [← hB0]; simp)
  clear hB0
  go_loopw [3, 4] (fun u i wr => ∃ j : Nat, j ≤ es.length ∧ i = .int .i64 j ∧ Hid (Ws wr (w.heap.size + 1) u ([(st, seq, 0), ((es.length : Int), 0, 0)] ++ bodyW (es.take j))) ∧ Hid (Ext W wr)) (fun _ i _ => es.length - (intOf i).toNat)
  case atStart => exact ⟨0, by omega, rfl, HM, hid (by (show Ext _ _; repeat (first | with_reducible (refine Hid.out ?_; assumption) | with_reducible exact Ext.refl _ | with_reducible refine Ext.ext ?_ _ | with_reducible refine Ext.alloc ?_ _ | refine Ext.drew ?_ | refine Ext.drewN ?_ _ | exact Ext.refl _)))⟩
  case round =>
    clear HM
    obtain ⟨j, hj, rfl, HO, HX⟩ := hrel
    have HXw := hid (HW.out.trans HX.out)
    have d3 := (HB.out.of HX.out).2.2 3 _ rfl
    have d4 := (HB.out.of HX.out).1
    by_cases hjl : j < es.length
    · have hd : decide (j < es.length) = true := decide_eq_true hjl
      have hx := List.getElem?_eq_getElem hjl
      generalize es[j] = e at hx
      obtain ⟨hnl, b0, o, hab, hbl, hcs⟩ := Sl.at (HV.out.of enE_len HXw.out) hx
      have HA := hid (bodyW_at hx)
      have HL := hid (show (([(st, seq, 0), ((es.length : Int), 0, 0)] : List Wd) ++ bodyW (es.take j)).length ≤ 1000 by rw [List.length_append, bodyW_len, List.length_take]; simp; omega)
      have HP := hid (pkE e)
      subst hab
      obtain ⟨loc, val, ver, ref, new, wr1⟩ := e
      have k0 := hcs 0 (by omega)
      have k1 := hcs 1 (by omega)
      have k2 := hcs 2 (by omega)
      have k3 := hcs 3 (by omega)
      have k4 := hcs 4 (by omega)
      have k5 := hcs 5 (by omega)
      simp [enE] at k0 k1 k2 k3 k4 k5
      clear hcs hnl hx
      obtain ⟨q, hq2⟩ : ∃ q : Int, q = if wr1 = true then 1 else 0 := ⟨_, rfl⟩
      have HQ := hid hq2
      clear hq2
      go_wp2_with fail
      refine (rentry_any loc val ver ref new wr1 _).mono ?_
      rintro y w' ⟨rfl, r3, rfl⟩
      rw [← HQ.out]
      obtain ⟨av, cv, hav⟩ := Own.shape HO.out
      subst hav
      have hsz := HX.out.size
      have HSz := hid (show w.heap.size + 1 ≤ wr.heap.size by have := HWs.out; omega)
      clear hsz
      go_wp2_with (at_builtin; refine ws_append_b rfl _ _ rfl W (HX.out.trans (by (show Ext _ _; repeat (first | with_reducible (refine Hid.out ?_; assumption) | with_reducible exact Ext.refl _ | with_reducible refine Ext.ext ?_ _ | with_reducible refine Ext.alloc ?_ _ | refine Ext.drew ?_ | refine Ext.drewN ?_ _ | exact Ext.refl _)))) (by rw [HWs.out]; exact Nat.le_refl _) (by have := HSz.out; simp only [World.size_alloc, size_ext]; omega) rfl (Own.alloc (Own.alloc (Own.ext HO.out _) _) _) _ 3 3 rfl [(loc, q, 0), (val, ver, 0), (new, 0, 0)] rfl (news_new rfl _ (by (first | rfl | (simp; done)))) (by have := HL.out; omega) ?_; rintro v9 w9 hv9 hX9 hB9; have HV9 := hid hv9; have HX9 := hid hX9; clear hv9 hX9 hB9)
      go_roundw
      case rel => exact ⟨j + 1, by omega, by go_num, hid (by rw [HA.out, HP.out, ← List.append_assoc]; (try dsimp only); rw [← HQ.out]; exact HV9.out), hid HX9.out⟩
      case measure => simp [intOf]; omega
    · have hd : decide (j < es.length) = false := decide_eq_false hjl
      obtain rfl : j = es.length := by omega
      have hO := HO.out
      rw [List.take_length] at hO
      have HO2 := hid (Own.mono hO (Nat.le_succ w.heap.size))
      clear hO
      go_wp2_with fail
      go_ret
      exact ⟨_, rfl, HXw.out, HO2.out⟩

/-- What the reference's Fits looks at one by one. -/
theorem fits_no {T B sl rm : Int} {ws : List Bool} {who seq st : Int} {es : List En} (h : (rplaceN T B sl rm who).1 < 0 ∨ seq < 1 ∨ 16777215 < seq ∨ st < 0 ∨ 3 < st ∨ (rplaceN T B sl rm who).2 < (es.length : Int) ∨ rightB es = false) : fitsB T B sl rm ws who seq st es = false := by
  cases hf : fitsB T B sl rm ws who seq st es
  · rfl
  · unfold fitsB at hf
    simp only [Bool.and_eq_true, decide_eq_true_eq] at hf
    obtain ⟨⟨⟨⟨⟨a1, a2⟩, a3⟩, a4⟩, a5⟩, a6⟩ := hf
    rcases h with h | h | h | h | h | h | h
    · omega
    · omega
    · omega
    · omega
    · omega
    · omega
    · rw [a5] at h; cases h
theorem fits_all {T B sl rm : Int} {ws : List Bool} {who seq st : Int} {es : List En} (h1 : ¬ (rplaceN T B sl rm who).1 < 0) (h2 : ¬ seq < 1) (h3 : ¬ 16777215 < seq) (h4 : ¬ st < 0) (h5 : ¬ 3 < st) (h6 : ¬ (rplaceN T B sl rm who).2 < (es.length : Int)) (h7 : rightB es = true) : fitsB T B sl rm ws who seq st es = es.all (fun e => rmayB ws e.loc) := by
  unfold fitsB
  rw [decide_eq_true (by omega), decide_eq_true (by omega), decide_eq_true (by omega), decide_eq_true (by omega), h7]; simp
theorem all_at {ws : List Bool} {es : List En} {j : Nat} {e : En} (h : es[j]? = some e) : (es.drop j).all (fun e => rmayB ws e.loc) = (rmayB ws e.loc && (es.drop (j + 1)).all (fun e => rmayB ws e.loc)) := by
  obtain ⟨hj, hk⟩ := List.getElem?_eq_some_iff.1 h
  rw [List.drop_eq_getElem_cons hj, hk]; rfl

set_option maxRecDepth 100000 in
set_option maxHeartbeats 4000000 in
theorem rfits_any (T B sl rm sz : Int) (hT : 0 ≤ T ∧ T ≤ 8) (hB : 0 ≤ B ∧ B ≤ 64) (hsl : 0 ≤ sl ∧ sl ≤ 100000) (hrm : 0 ≤ rm ∧ rm ≤ 100000) (ws : List Bool) (pv : Value) (who seq st : Int) (es : List En) (v : Value) (h32 : es.length ≤ 1000) (w : World) (hp : Sl w 1 boE pv ws) (hv : Es w v es) :
    Calls Tryd.prog 68 #[.agg #[.int .i64 T, .int .i64 B, .int .i64 sl, .int .i64 rm, .int .i64 104, .int .i64 32, pv, .int .i64 sz], .agg #[.int .i64 who, .int .i64 seq, .int .i64 st, v]] w
      fun y w' => y = .returned (.bool (fitsB T B sl rm ws who seq st es)) ∧ ∃ r, w' = ext w r := by
  have HV := hid hv
  have HPv := hid hp
  have HT := hid hT
  have HB := hid hB
  have HSl := hid hsl
  have HRm := hid hrm
  obtain ⟨a, cp, rfl, _, _⟩ := hv
  obtain ⟨pa, pc, rfl, _, _⟩ := hp
  obtain ⟨⟨q1, q2⟩, hq⟩ : ∃ q, q = rplaceN T B sl rm who := ⟨_, rfl⟩
  have HQ := hid hq
  have HNo := hid (fun h => fits_no (T := T) (B := B) (sl := sl) (rm := rm) (ws := ws) (who := who) (seq := seq) (st := st) (es := es) h)
  have HAll := hid (fun h1 h2 h3 h4 h5 h6 h7 => fits_all (T := T) (B := B) (sl := sl) (rm := rm) (ws := ws) (who := who) (seq := seq) (st := st) (es := es) h1 h2 h3 h4 h5 h6 h7)
  rw [← hq] at HNo HAll
  dsimp only at HNo HAll
  obtain ⟨n, hn⟩ : ∃ n, n = es.length := ⟨_, rfl⟩
  have HN := hid hn
  rw [← hn] at HV HNo HAll h32 ⊢
  clear hT hB hsl hrm hq hn
  have hcs : q1 < 0 ∨ (¬ q1 < 0 ∧ seq < 1) ∨ (¬ q1 < 0 ∧ ¬ seq < 1 ∧ 16777215 < seq) ∨ (¬ q1 < 0 ∧ ¬ seq < 1 ∧ ¬ 16777215 < seq ∧ st < 0) ∨ (¬ q1 < 0 ∧ ¬ seq < 1 ∧ ¬ 16777215 < seq ∧ ¬ st < 0 ∧ 3 < st) ∨ (¬ q1 < 0 ∧ ¬ seq < 1 ∧ ¬ 16777215 < seq ∧ ¬ st < 0 ∧ ¬ 3 < st ∧ q2 < (n : Int)) ∨ (¬ q1 < 0 ∧ ¬ seq < 1 ∧ ¬ 16777215 < seq ∧ ¬ st < 0 ∧ ¬ 3 < st ∧ ¬ q2 < (n : Int)) := by omega
  rcases hcs with h1 | ⟨h1, h2⟩ | ⟨h1, h2, h3⟩ | ⟨h1, h2, h3, h4⟩ | ⟨h1, h2, h3, h4, h5⟩ | ⟨h1, h2, h3, h4, h5, h6⟩ | ⟨h1, h2, h3, h4, h5, h6⟩
  · have HF := hid (HNo.out (by omega))
    go_enter Tryd.func68, Tryd.ntmps68
    go_wp2_with fail
    refine (rplace_any T B sl rm who _ sz HT.out HB.out HSl.out HRm.out _).mono ?_
    rintro e w' ⟨rfl, r1, rfl⟩
    rw [← HQ.out]
    dsimp only
    go_wp2_with fail
    go_ret
    exact ⟨ret_bool HF.out.symm, by (show Ext _ _; repeat (first | with_reducible (refine Hid.out ?_; assumption) | with_reducible exact Ext.refl _ | with_reducible refine Ext.ext ?_ _ | with_reducible refine Ext.alloc ?_ _ | refine Ext.drew ?_ | refine Ext.drewN ?_ _ | exact Ext.refl _))⟩
  · have HF := hid (HNo.out (by omega))
    go_enter Tryd.func68, Tryd.ntmps68
    go_wp2_with fail
    refine (rplace_any T B sl rm who _ sz HT.out HB.out HSl.out HRm.out _).mono ?_
    rintro e w' ⟨rfl, r1, rfl⟩
    rw [← HQ.out]
    dsimp only
    go_wp2_with fail
    go_ret
    exact ⟨ret_bool HF.out.symm, by (show Ext _ _; repeat (first | with_reducible (refine Hid.out ?_; assumption) | with_reducible exact Ext.refl _ | with_reducible refine Ext.ext ?_ _ | with_reducible refine Ext.alloc ?_ _ | refine Ext.drew ?_ | refine Ext.drewN ?_ _ | exact Ext.refl _))⟩
  · have HF := hid (HNo.out (by omega))
    go_enter Tryd.func68, Tryd.ntmps68
    go_wp2_with fail
    refine (rplace_any T B sl rm who _ sz HT.out HB.out HSl.out HRm.out _).mono ?_
    rintro e w' ⟨rfl, r1, rfl⟩
    rw [← HQ.out]
    dsimp only
    go_wp2_with fail
    go_ret
    exact ⟨ret_bool HF.out.symm, by (show Ext _ _; repeat (first | with_reducible (refine Hid.out ?_; assumption) | with_reducible exact Ext.refl _ | with_reducible refine Ext.ext ?_ _ | with_reducible refine Ext.alloc ?_ _ | refine Ext.drew ?_ | refine Ext.drewN ?_ _ | exact Ext.refl _))⟩
  · have HF := hid (HNo.out (by omega))
    go_enter Tryd.func68, Tryd.ntmps68
    go_wp2_with fail
    refine (rplace_any T B sl rm who _ sz HT.out HB.out HSl.out HRm.out _).mono ?_
    rintro e w' ⟨rfl, r1, rfl⟩
    rw [← HQ.out]
    dsimp only
    go_wp2_with fail
    go_ret
    exact ⟨ret_bool HF.out.symm, by (show Ext _ _; repeat (first | with_reducible (refine Hid.out ?_; assumption) | with_reducible exact Ext.refl _ | with_reducible refine Ext.ext ?_ _ | with_reducible refine Ext.alloc ?_ _ | refine Ext.drew ?_ | refine Ext.drewN ?_ _ | exact Ext.refl _))⟩
  · have HF := hid (HNo.out (by omega))
    go_enter Tryd.func68, Tryd.ntmps68
    go_wp2_with fail
    refine (rplace_any T B sl rm who _ sz HT.out HB.out HSl.out HRm.out _).mono ?_
    rintro e w' ⟨rfl, r1, rfl⟩
    rw [← HQ.out]
    dsimp only
    go_wp2_with fail
    go_ret
    exact ⟨ret_bool HF.out.symm, by (show Ext _ _; repeat (first | with_reducible (refine Hid.out ?_; assumption) | with_reducible exact Ext.refl _ | with_reducible refine Ext.ext ?_ _ | with_reducible refine Ext.alloc ?_ _ | refine Ext.drew ?_ | refine Ext.drewN ?_ _ | exact Ext.refl _))⟩
  · have HF := hid (HNo.out (by omega))
    go_enter Tryd.func68, Tryd.ntmps68
    go_wp2_with fail
    refine (rplace_any T B sl rm who _ sz HT.out HB.out HSl.out HRm.out _).mono ?_
    rintro e w' ⟨rfl, r1, rfl⟩
    rw [← HQ.out]
    dsimp only
    go_wp2_with fail
    go_ret
    exact ⟨ret_bool HF.out.symm, by (show Ext _ _; repeat (first | with_reducible (refine Hid.out ?_; assumption) | with_reducible exact Ext.refl _ | with_reducible refine Ext.ext ?_ _ | with_reducible refine Ext.alloc ?_ _ | refine Ext.drew ?_ | refine Ext.drewN ?_ _ | exact Ext.refl _))⟩
  · go_enter Tryd.func68, Tryd.ntmps68
    go_wp2_with fail
    refine (rplace_any T B sl rm who _ sz HT.out HB.out HSl.out HRm.out _).mono ?_
    rintro e w' ⟨rfl, r1, rfl⟩
    rw [← HQ.out]
    dsimp only
    go_wp2_with fail
    refine (rright_any es _ _ (HV.out.of enE_len (by (show Ext _ _; repeat (first | with_reducible (refine Hid.out ?_; assumption) | with_reducible exact Ext.refl _ | with_reducible refine Ext.ext ?_ _ | with_reducible refine Ext.alloc ?_ _ | refine Ext.drew ?_ | refine Ext.drewN ?_ _ | exact Ext.refl _)))) (by rw [← HN.out]; exact h32)).mono ?_
    rintro e w' ⟨rfl, r2, rfl⟩
    cases hrb : rightB es
    · have HF := hid (HNo.out (.inr (.inr (.inr (.inr (.inr (.inr hrb)))))))
      clear hrb
      go_wp2_with fail
      go_ret
      exact ⟨ret_bool HF.out.symm, by (show Ext _ _; repeat (first | with_reducible (refine Hid.out ?_; assumption) | with_reducible exact Ext.refl _ | with_reducible refine Ext.ext ?_ _ | with_reducible refine Ext.alloc ?_ _ | refine Ext.drew ?_ | refine Ext.drewN ?_ _ | exact Ext.refl _))⟩
    · have HF := hid (show fitsB T B sl rm ws who seq st es = (es.drop 0).all (fun e => rmayB ws e.loc) from HAll.out h1 h2 h3 h4 h5 h6 hrb)
      clear hrb HNo HAll
      generalize hW : ext _ r2 = W
      have HB3 := hid (show Blk W (w.heap.size + 1) [.int .i64 who, .int .i64 seq, .int .i64 st, .slice a n cp] by rw [← hW]; (show Blk _ _ _; repeat (first | with_reducible (refine Hid.out ?_; assumption) | with_reducible refine Blk.drew ?_ | with_reducible refine Blk.ext ?_ _ | (with_reducible refine Blk.new _ _ rfl ?_; first | with_reducible rfl | (simp; done)) | with_reducible refine Blk.alloc ?_ _ | with_reducible assumption | with_reducible apply Blk.setE | (with_reducible refine Blk.other' ?_ ?_; first | omega | (simp; omega)) | (show List.set _ _ _ = _; exact rfl) | (show _ < List.length _; simp; done))))
      have HB2 := hid (show Blk W w.heap.size [.int .i64 T, .int .i64 B, .int .i64 sl, .int .i64 rm, .int .i64 104, .int .i64 32, .slice pa ws.length pc, .int .i64 sz] by rw [← hW]; (show Blk _ _ _; repeat (first | with_reducible (refine Hid.out ?_; assumption) | with_reducible refine Blk.drew ?_ | with_reducible refine Blk.ext ?_ _ | (with_reducible refine Blk.new _ _ rfl ?_; first | with_reducible rfl | (simp; done)) | with_reducible refine Blk.alloc ?_ _ | with_reducible assumption | with_reducible apply Blk.setE | (with_reducible refine Blk.other' ?_ ?_; first | omega | (simp; omega)) | (show List.set _ _ _ = _; exact rfl) | (show _ < List.length _; simp; done))))
      have HW := hid (show Ext w W by rw [← hW]; (show Ext _ _; repeat (first | with_reducible (refine Hid.out ?_; assumption) | with_reducible exact Ext.refl _ | with_reducible refine Ext.ext ?_ _ | with_reducible refine Ext.alloc ?_ _ | refine Ext.drew ?_ | refine Ext.drewN ?_ _ | exact Ext.refl _)))
      clear hW
      go_wp2_with fail
      go_loopw [7] (fun i wr => ∃ j : Nat, j ≤ n ∧ i = .int .i64 j ∧ Hid (fitsB T B sl rm ws who seq st es = (es.drop j).all (fun e => rmayB ws e.loc)) ∧ Hid (Ext W wr)) (fun i _ => n - (intOf i).toNat)
      case atStart => exact ⟨0, by omega, rfl, HF, hid (by (show Ext _ _; repeat (first | with_reducible (refine Hid.out ?_; assumption) | with_reducible exact Ext.refl _ | with_reducible refine Ext.ext ?_ _ | with_reducible refine Ext.alloc ?_ _ | refine Ext.drew ?_ | refine Ext.drewN ?_ _ | exact Ext.refl _)))⟩
      case round =>
        clear HF
        obtain ⟨j, hj, rfl, HF, HX⟩ := hrel
        have HXw := hid (HW.out.trans HX.out)
        obtain ⟨c0, c1, c2, c3, c4, c5, c6, c7⟩ := (HB2.out.of HX.out).eight
        have d3 := (HB3.out.of HX.out).2.2 3 _ rfl
        have d4 := (HB3.out.of HX.out).1
        have c8 := (HB2.out.of HX.out).1
        by_cases hjl : j < n
        · have hd : decide (j < n) = true := decide_eq_true hjl
          have hx := List.getElem?_eq_getElem (show j < es.length by have := HN.out; omega)
          generalize es[j]'(by have := HN.out; omega) = e at hx
          have HA := hid (all_at (ws := ws) hx)
          obtain ⟨hnl, b0, o, hab, hbl, hcs⟩ := Sl.at (HV.out.of enE_len HXw.out) hx
          subst hab
          have k0 := hcs 0 (by omega)
          simp [enE] at k0
          obtain ⟨loc, val, ver, ref, new, wr1⟩ := e
          dsimp only at k0
          clear hcs hnl hx
          obtain ⟨mb, hmb⟩ : ∃ mb, mb = rmayB ws loc := ⟨_, rfl⟩
          have HMb := hid (fun w hp => by have := rmay_any T B sl rm 104 32 sz ws (.slice pa ws.length pc) loc w hp; rw [← hmb] at this; exact this)
          have HM2 := hid hmb
          clear hmb
          have hjj : (j : Int) < (n : Int) := by omega
          cases mb
          · have HR := hid (show fitsB T B sl rm ws who seq st es = false by rw [HF.out, HA.out, ← HM2.out]; rfl)
            clear HF HA
            go_wp2_with fail
            refine region_ext (by kernel_rfl) (by kernel_rfl) ?_
            repeat (go_big_quiet_step ((go_at_call 74; exact quiet_ext (HMb.out _ (HPv.out.of boE_len (HXw.out.trans (by (show Ext _ _; repeat (first | with_reducible (refine Hid.out ?_; assumption) | with_reducible exact Ext.refl _ | with_reducible refine Ext.ext ?_ _ | with_reducible refine Ext.alloc ?_ _ | refine Ext.drew ?_ | refine Ext.drewN ?_ _ | exact Ext.refl _)))))))))
            refine wpQuiet_nil ?_
            rintro _ ⟨r4, rfl⟩
            go_wp2_with fail
            go_ret
            exact ⟨ret_bool HR.out.symm, HXw.out.trans (by (show Ext _ _; repeat (first | with_reducible (refine Hid.out ?_; assumption) | with_reducible exact Ext.refl _ | with_reducible refine Ext.ext ?_ _ | with_reducible refine Ext.alloc ?_ _ | refine Ext.drew ?_ | refine Ext.drewN ?_ _ | exact Ext.refl _)))⟩
          · have HR := hid (show fitsB T B sl rm ws who seq st es = (es.drop (j + 1)).all (fun e => rmayB ws e.loc) by rw [HF.out, HA.out, ← HM2.out]; rfl)
            clear HF HA
            go_wp2_with fail
            refine region_ext (by kernel_rfl) (by kernel_rfl) ?_
            repeat (go_big_quiet_step ((go_at_call 74; exact quiet_ext (HMb.out _ (HPv.out.of boE_len (HXw.out.trans (by (show Ext _ _; repeat (first | with_reducible (refine Hid.out ?_; assumption) | with_reducible exact Ext.refl _ | with_reducible refine Ext.ext ?_ _ | with_reducible refine Ext.alloc ?_ _ | refine Ext.drew ?_ | refine Ext.drewN ?_ _ | exact Ext.refl _)))))))))
            refine wpQuiet_nil ?_
            rintro _ ⟨r4, rfl⟩
            go_wp2_with fail
            go_roundw
            case rel => exact ⟨j + 1, by omega, by go_num, HR, hid (HX.out.trans (by (show Ext _ _; repeat (first | with_reducible (refine Hid.out ?_; assumption) | with_reducible exact Ext.refl _ | with_reducible refine Ext.ext ?_ _ | with_reducible refine Ext.alloc ?_ _ | refine Ext.drew ?_ | refine Ext.drewN ?_ _ | exact Ext.refl _))))⟩
            case measure => simp [intOf]; omega
        · have hd : decide (j < n) = false := decide_eq_false hjl
          have HR := hid (show fitsB T B sl rm ws who seq st es = true by have := HN.out; rw [HF.out, List.drop_eq_nil_of_le (by omega)]; rfl)
          clear HF
          go_wp2_with fail
          go_ret
          exact ⟨ret_bool HR.out.symm, HXw.out⟩

end Go.Proofs.YtfijnpfhffhffaaDoor

namespace Go.Proofs.YtfijnpfhffhffaaDoor
set_option linter.unusedSimpArgs false
set_option linter.unusedVariables false
open Go.RowKit

/-- What the reference's Read leaves. -/
def RRP (w : World) (q : Option (Int × Int × List En)) (who : Int) (y : Ending) (w' : World) : Prop :=
  (∃ r, w' = ext w r) ∧ ∃ (a b c : Int) (s : Option Addr) (n cp : Nat), y = .returned (.tuple #[.agg #[.int .i64 a, .int .i64 b, .int .i64 c, .slice s n cp], .bool q.isSome]) ∧
    ∀ seq st es, q = some (seq, st, es) → a = who ∧ b = seq ∧ c = st ∧ Es w' (.slice s n cp) es
theorem RRP.no {w w' : World} {q : Option (Int × Int × List En)} {who a b c : Int} {s : Option Addr} {n cp : Nat} (hq : q = none) (h : ∃ r, w' = ext w r) : RRP w q who (.returned (.tuple #[.agg #[.int .i64 a, .int .i64 b, .int .i64 c, .slice s n cp], .bool false])) w' := by
  subst hq; exact ⟨h, a, b, c, s, n, cp, rfl, by simp⟩

theorem RRP.yes {w w' : World} {q : Option (Int × Int × List En)} {who b c : Int} {s : Option Addr} {n cp : Nat} {es : List En} (hq : q = some (b, c, es)) (h : ∃ r, w' = ext w r) (he : Es w' (.slice s n cp) es) : RRP w q who (.returned (.tuple #[.agg #[.int .i64 who, .int .i64 b, .int .i64 c, .slice s n cp], .bool true])) w' := by
  subst hq; exact ⟨h, who, b, c, s, n, cp, rfl, fun seq st es' h' => by cases h'; exact ⟨rfl, rfl, rfl, he⟩⟩

set_option maxRecDepth 100000 in
set_option maxHeartbeats 4000000 in
theorem rread_any (T B sl rm sz : Int) (hT : 0 ≤ T ∧ T ≤ 8) (hB : 0 ≤ B ∧ B ≤ 64) (hsl : 0 ≤ sl ∧ sl ≤ 100000) (hrm : 0 ≤ rm ∧ rm ≤ 100000) (ws : List Bool) (pv : Value) (who : Int) (l : List Wd) (lv : Value) (hok : ∀ a ∈ l, WdOk a)
    (hroom : ¬ (rplaceN T B sl rm who).1 < 0 → (rplaceN T B sl rm who).1 ≤ 30000 ∧ (0 ≤ (rplaceN T B sl rm who).2 ∧ (rplaceN T B sl rm who).2 ≤ 32) ∧ (rplaceN T B sl rm who).1 + 2 + 3 * (rplaceN T B sl rm who).2 ≤ (l.length : Int))
    (w : World) (hp : Sl w 1 boE pv ws) (hv : Sl w 3 wdE lv l) :
    Calls Tryd.prog 55 #[.agg #[.int .i64 T, .int .i64 B, .int .i64 sl, .int .i64 rm, .int .i64 104, .int .i64 32, pv, .int .i64 sz], lv, .int .i64 who] w fun y w' => RRP w (rreadO T B sl rm ws l who) who y w' := by
  have HV := hid hv
  have HPv := hid hp
  have HT := hid hT
  have HB := hid hB
  have HSl := hid hsl
  have HRm := hid hrm
  have HOk := hid hok
  obtain ⟨a, cp, rfl, ⟨hm, hlc⟩, _⟩ := hv
  obtain ⟨pa, pc, rfl, _, _⟩ := hp
  obtain ⟨O, hO⟩ : ∃ O, O = rreadO T B sl rm ws l who := ⟨_, rfl⟩
  rw [← hO]
  unfold rreadO at hO
  have HRd := hid hO
  clear hO
  obtain ⟨⟨q1, q2⟩, hq⟩ : ∃ q, q = rplaceN T B sl rm who := ⟨_, rfl⟩
  have HQ := hid hq
  rw [← hq] at hroom HRd
  dsimp only at hroom HRd
  clear hT hB hsl hrm hq hok
  by_cases h1 : q1 < 0
  · have HF := hid (show O = none by rw [HRd.out, if_pos h1])
    clear HRd hroom
    go_enter Tryd.func55, Tryd.ntmps55
    go_wp2_with fail
    refine (rplace_any T B sl rm who _ sz HT.out HB.out HSl.out HRm.out _).mono ?_
    rintro e w' ⟨rfl, r1, rfl⟩
    rw [← HQ.out]
    dsimp only
    (repeat (first | go_values | go_skip | go_guarded | go_step | go_upon | (simp only [Int.not_lt, Int.not_le] at *; go_simp) | (go_ite <;> go_prune <;> (try go_simp))))
    exact bodyPost_ret (v := .tuple #[.agg #[.int .i64 0, .int .i64 0, .int .i64 0, .slice none 0 0], .bool false]) (by simp [results, Tryd.results55, go_sem]) rfl (RRP.no HF.out (by (show Ext _ _; repeat (first | with_reducible (refine Hid.out ?_; assumption) | with_reducible exact Ext.refl _ | with_reducible refine Ext.ext ?_ _ | with_reducible refine Ext.alloc ?_ _ | with_reducible refine Ext.drew ?_ | with_reducible refine Ext.setCell ?_ (by (try dsimp only); first | omega | (simp; done) | (simp; omega)) _))))
  obtain ⟨hp9, ⟨hm0, hm1⟩, hrl⟩ := hroom h1
  obtain ⟨p, rfl⟩ := Int.eq_ofNat_of_zero_le (show 0 ≤ q1 by omega)
  rw [if_neg h1, Int.toNat_natCast] at HRd
  have hpl : p + 1 < l.length := by omega
  have hsx := List.getElem?_eq_getElem (show p < l.length by omega)
  have hnx := List.getElem?_eq_getElem hpl
  generalize l[p] = s at hsx
  generalize l[p + 1] = n at hnx
  rw [hsx, hnx] at HRd
  dsimp only at HRd
  obtain ⟨g0, bb, oo, hab, hbl, hcs⟩ := Sl.at HV.out hsx
  obtain ⟨g1, bb', oo', hab', _, hcn⟩ := Sl.at HV.out hnx
  subst hab
  cases hab'
  obtain ⟨_, ⟨hs20, hs21⟩, _⟩ := HOk.out s (List.mem_of_getElem? hsx)
  obtain ⟨s1, s2, s3⟩ := s
  obtain ⟨n1, n2, n3⟩ := n
  dsimp only at hs20 hs21
  have k0 := hcs 0 (by omega)
  have k1 := hcs 1 (by omega)
  have k2 := hcs 2 (by omega)
  have q0 := hcn 0 (by omega)
  simp [wdE] at k0 k1 k2 q0
  have HSx := hid hsx
  have HNx := hid hnx
  have hi0 : (0 : Int) ≤ (p : Int) := by omega
  have hi1 : (p : Int) < (l.length : Int) := by omega
  have hi2 : (0 : Int) ≤ (p : Int) + 1 := by omega
  have hi3 : (p : Int) + 1 < (l.length : Int) := by omega
  have ht : ((p : Int) + 1).toNat = p + 1 := by omega
  have HRl := hid hrl
  clear hcs hcn g0 g1 hsx hnx hroom hm hlc hrl h1
  by_cases hbad : n1 < 1 ∨ q2 < n1
  · have HF := hid (show O = none by rw [HRd.out, if_pos hbad])
    clear HRd
    have hcs : n1 < 1 ∨ (¬ n1 < 1 ∧ q2 < n1) := by omega
    clear hbad
    rcases hcs with h1 | ⟨h1, h2⟩
    all_goals
      go_enter Tryd.func55, Tryd.ntmps55
      go_wp2_with fail
      refine (rplace_any T B sl rm who _ sz HT.out HB.out HSl.out HRm.out _).mono ?_
      rintro e w' ⟨rfl, r1, rfl⟩
      rw [← HQ.out]
      dsimp only
      (repeat (first | go_values | go_skip | go_guarded | go_step | go_upon | (simp only [Int.not_lt, Int.not_le] at *; go_simp) | (go_ite <;> go_prune <;> (try go_simp))))
      exact bodyPost_ret (v := .tuple #[.agg #[.int .i64 0, .int .i64 0, .int .i64 0, .slice none 0 0], .bool false]) (by simp [results, Tryd.results55, go_sem]) rfl (RRP.no HF.out (by (show Ext _ _; repeat (first | with_reducible (refine Hid.out ?_; assumption) | with_reducible exact Ext.refl _ | with_reducible refine Ext.ext ?_ _ | with_reducible refine Ext.alloc ?_ _ | with_reducible refine Ext.drew ?_ | with_reducible refine Ext.setCell ?_ (by (try dsimp only); first | omega | (simp; done) | (simp; omega)) _))))
  obtain ⟨k, rfl⟩ := Int.eq_ofNat_of_zero_le (show 0 ≤ n1 by omega)
  have hk1 : ¬ (k : Int) < 1 := by omega
  have hk2 : ¬ q2 < (k : Int) := by omega
  rw [if_neg hbad, Int.toNat_natCast] at HRd
  clear hbad
  obtain ⟨t, ht9⟩ : ∃ t, t = stN s1 := ⟨_, rfl⟩
  rw [← ht9] at HRd
  have hcs : (0 ≤ s1 ∧ s1 ≤ 3 ∧ t = s1) ∨ (¬ 0 ≤ s1 ∧ t = -1) ∨ (0 ≤ s1 ∧ ¬ s1 ≤ 3 ∧ t = -1) := by
    unfold stN at ht9
    split at ht9 <;> omega
  clear ht9
  go_enter Tryd.func55, Tryd.ntmps55
  go_wp2_with fail
  refine (rplace_any T B sl rm who _ sz HT.out HB.out HSl.out HRm.out _).mono ?_
  rintro e w' ⟨rfl, r1, rfl⟩
  rw [← HQ.out]
  dsimp only
  go_upto_region 8 with fail
  go_cut [62] (fun c wx => c = .bool (decide (0 ≤ s1 ∧ s1 ≤ 3)) ∧ Blk wx w.heap.size [.int .i64 T, .int .i64 B, .int .i64 sl, .int .i64 rm, .int .i64 104, .int .i64 32, .slice pa ws.length pc, .int .i64 sz] ∧ Blk wx (w.heap.size + 1) [.int .i64 0, .int .i64 0, .int .i64 0, .slice none 0 0] ∧ Blk wx (w.heap.size + 1 + 1 + r1.new.size) [.int .i64 who, .int .i64 s2, .int .i64 (-1), .slice none 0 0] ∧ Ext w wx)
  case first =>
    rcases hcs with ⟨z1, z2, _⟩ | ⟨z1, _⟩ | ⟨z1, z2, _⟩
    all_goals
      go_wp2_with fail
      go_meet
      exact ⟨by simp [z1]; try omega, by (show Blk _ _ _; repeat (first | with_reducible (refine Hid.out ?_; assumption) | with_reducible apply Blk.drew | with_reducible apply Blk.ext | ((with_reducible refine Blk.new _ _ rfl ?_); first | with_reducible rfl | focus (simp; done)) | ((with_reducible apply Blk.newE); first | with_reducible rfl | focus (simp; done)) | with_reducible apply Blk.alloc | with_reducible assumption | with_reducible apply Blk.setE | ((with_reducible refine Blk.other' ?_ ?_); first | omega | (simp; omega)) | (show List.set _ _ _ = _; exact rfl) | focus (show _ < List.length _; simp; done))), by (show Blk _ _ _; repeat (first | with_reducible (refine Hid.out ?_; assumption) | with_reducible apply Blk.drew | with_reducible apply Blk.ext | ((with_reducible refine Blk.new _ _ rfl ?_); first | with_reducible rfl | focus (simp; done)) | ((with_reducible apply Blk.newE); first | with_reducible rfl | focus (simp; done)) | with_reducible apply Blk.alloc | with_reducible assumption | with_reducible apply Blk.setE | ((with_reducible refine Blk.other' ?_ ?_); first | omega | (simp; omega)) | (show List.set _ _ _ = _; exact rfl) | focus (show _ < List.length _; simp; done))), by (show Blk _ _ _; repeat (first | with_reducible (refine Hid.out ?_; assumption) | with_reducible apply Blk.drew | with_reducible apply Blk.ext | ((with_reducible refine Blk.new _ _ rfl ?_); first | with_reducible rfl | focus (simp; done)) | ((with_reducible apply Blk.newE); first | with_reducible rfl | focus (simp; done)) | with_reducible apply Blk.alloc | with_reducible assumption | with_reducible apply Blk.setE | ((with_reducible refine Blk.other' ?_ ?_); first | omega | (simp; omega)) | (show List.set _ _ _ = _; exact rfl) | focus (show _ < List.length _; simp; done))), by (show Ext _ _; repeat (first | with_reducible (refine Hid.out ?_; assumption) | with_reducible exact Ext.refl _ | with_reducible refine Ext.ext ?_ _ | with_reducible refine Ext.alloc ?_ _ | with_reducible refine Ext.drew ?_ | with_reducible refine Ext.setCell ?_ (by (try dsimp only); first | omega | (simp; done) | (simp; omega)) _))⟩
  case rest =>
  obtain ⟨rfl, hb3, hb6, hb11, hex⟩ := hcut
  have HB3 := hid hb3
  have HB6 := hid hb6
  have HB11 := hid hb11
  have HEx := hid hex
  clear hb3 hb6 hb11 hex
  go_upto_if 62 with fail
  go_cut [] (fun wx => Blk wx w.heap.size [.int .i64 T, .int .i64 B, .int .i64 sl, .int .i64 rm, .int .i64 104, .int .i64 32, .slice pa ws.length pc, .int .i64 sz] ∧ Blk wx (w.heap.size + 1) [.int .i64 0, .int .i64 0, .int .i64 0, .slice none 0 0] ∧ Blk wx (w.heap.size + 1 + 1 + r1.new.size) [.int .i64 who, .int .i64 s2, .int .i64 t, .slice none 0 0] ∧ Ext w wx)
  case first =>
    have k0' := HEx.out.cell k0
    have c2 := HB11.out.2.2 2 _ rfl
    have c3 := HB11.out.2.1 2
    have c4 := HB11.out.1
    by_cases hz : 0 ≤ s1 ∧ s1 ≤ 3
    · rw [decide_eq_true hz]
      obtain rfl : t = s1 := by omega
      go_wp2_with fail
      go_meet
      exact ⟨by (show Blk _ _ _; repeat (first | with_reducible (refine Hid.out ?_; assumption) | with_reducible apply Blk.drew | with_reducible apply Blk.ext | ((with_reducible refine Blk.new _ _ rfl ?_); first | with_reducible rfl | focus (simp; done)) | ((with_reducible apply Blk.newE); first | with_reducible rfl | focus (simp; done)) | with_reducible apply Blk.alloc | with_reducible assumption | with_reducible apply Blk.setE | ((with_reducible refine Blk.other' ?_ ?_); first | omega | (simp; omega)) | (show List.set _ _ _ = _; exact rfl) | focus (show _ < List.length _; simp; done))), by (show Blk _ _ _; repeat (first | with_reducible (refine Hid.out ?_; assumption) | with_reducible apply Blk.drew | with_reducible apply Blk.ext | ((with_reducible refine Blk.new _ _ rfl ?_); first | with_reducible rfl | focus (simp; done)) | ((with_reducible apply Blk.newE); first | with_reducible rfl | focus (simp; done)) | with_reducible apply Blk.alloc | with_reducible assumption | with_reducible apply Blk.setE | ((with_reducible refine Blk.other' ?_ ?_); first | omega | (simp; omega)) | (show List.set _ _ _ = _; exact rfl) | focus (show _ < List.length _; simp; done))), by (show Blk _ _ _; repeat (first | with_reducible (refine Hid.out ?_; assumption) | with_reducible apply Blk.drew | with_reducible apply Blk.ext | ((with_reducible refine Blk.new _ _ rfl ?_); first | with_reducible rfl | focus (simp; done)) | ((with_reducible apply Blk.newE); first | with_reducible rfl | focus (simp; done)) | with_reducible apply Blk.alloc | with_reducible assumption | with_reducible apply Blk.setE | ((with_reducible refine Blk.other' ?_ ?_); first | omega | (simp; omega)) | (show List.set _ _ _ = _; exact rfl) | focus (show _ < List.length _; simp; done))), by (show Ext _ _; repeat (first | with_reducible (refine Hid.out ?_; assumption) | with_reducible exact Ext.refl _ | with_reducible refine Ext.ext ?_ _ | with_reducible refine Ext.alloc ?_ _ | with_reducible refine Ext.drew ?_ | with_reducible refine Ext.setCell ?_ (by (try dsimp only); first | omega | (simp; done) | (simp; omega)) _))⟩
    · rw [decide_eq_false hz]
      obtain rfl : t = -1 := by omega
      go_wp2_with fail
      go_meet
      exact ⟨by (show Blk _ _ _; repeat (first | with_reducible (refine Hid.out ?_; assumption) | with_reducible apply Blk.drew | with_reducible apply Blk.ext | ((with_reducible refine Blk.new _ _ rfl ?_); first | with_reducible rfl | focus (simp; done)) | ((with_reducible apply Blk.newE); first | with_reducible rfl | focus (simp; done)) | with_reducible apply Blk.alloc | with_reducible assumption | with_reducible apply Blk.setE | ((with_reducible refine Blk.other' ?_ ?_); first | omega | (simp; omega)) | (show List.set _ _ _ = _; exact rfl) | focus (show _ < List.length _; simp; done))), by (show Blk _ _ _; repeat (first | with_reducible (refine Hid.out ?_; assumption) | with_reducible apply Blk.drew | with_reducible apply Blk.ext | ((with_reducible refine Blk.new _ _ rfl ?_); first | with_reducible rfl | focus (simp; done)) | ((with_reducible apply Blk.newE); first | with_reducible rfl | focus (simp; done)) | with_reducible apply Blk.alloc | with_reducible assumption | with_reducible apply Blk.setE | ((with_reducible refine Blk.other' ?_ ?_); first | omega | (simp; omega)) | (show List.set _ _ _ = _; exact rfl) | focus (show _ < List.length _; simp; done))), by (show Blk _ _ _; repeat (first | with_reducible (refine Hid.out ?_; assumption) | with_reducible apply Blk.drew | with_reducible apply Blk.ext | ((with_reducible refine Blk.new _ _ rfl ?_); first | with_reducible rfl | focus (simp; done)) | ((with_reducible apply Blk.newE); first | with_reducible rfl | focus (simp; done)) | with_reducible apply Blk.alloc | with_reducible assumption | with_reducible apply Blk.setE | ((with_reducible refine Blk.other' ?_ ?_); first | omega | (simp; omega)) | (show List.set _ _ _ = _; exact rfl) | focus (show _ < List.length _; simp; done))), by (show Ext _ _; repeat (first | with_reducible (refine Hid.out ?_; assumption) | with_reducible exact Ext.refl _ | with_reducible refine Ext.ext ?_ _ | with_reducible refine Ext.alloc ?_ _ | with_reducible refine Ext.drew ?_ | with_reducible refine Ext.setCell ?_ (by (try dsimp only); first | omega | (simp; done) | (simp; omega)) _))⟩
  case rest =>
  obtain ⟨hb3, hb6, hb11, hex⟩ := hcut
  clear HB3 HB6 HB11 HEx
  have HB3 := hid hb3
  have HB6 := hid hb6
  have HB11 := hid hb11
  have HEx := hid hex
  generalize hDD : w.heap.size + 1 + 1 + r1.new.size = DD at *
  have hD1 : w.heap.size + 1 < DD := by omega
  clear hb3 hb6 hb11 hex hDD k0 k1 k2 q0
  have hDw := HB11.out.1
  obtain ⟨V, rfl⟩ : ∃ V : World, V = wc := ⟨_, rfl⟩
  have hpk : (p : Int) + 2 + 3 * (k : Int) ≤ (l.length : Int) := by have := HRl.out; omega
  go_wp2_with fail
  go_loopw [12] (fun i wr => ∃ j : Nat, j ≤ k ∧ i = .int .i64 j ∧ ∃ es vv, Hid (unpackTo l (p + 2) j = some es) ∧ Hid (Blk wr w.heap.size [.int .i64 T, .int .i64 B, .int .i64 sl, .int .i64 rm, .int .i64 104, .int .i64 32, .slice pa ws.length pc, .int .i64 sz]) ∧ Hid (Blk wr (w.heap.size + 1) [.int .i64 0, .int .i64 0, .int .i64 0, .slice none 0 0]) ∧ Hid (Blk wr DD [.int .i64 who, .int .i64 s2, .int .i64 t, vv]) ∧ Hid (Own wr V.heap.size 75 6 enE vv es) ∧ Hid (Ext w wr) ∧ V.heap.size ≤ wr.heap.size) (fun i _ => k - (intOf i).toNat)
  case atStart => exact ⟨0, by omega, rfl, [], _, hid rfl, HB3, HB6, HB11, hid Own.nil, HEx, Nat.le_refl _⟩
  case round =>
    clear HB3 HB6 HB11 HEx
    obtain ⟨j, hj, rfl, es, vv, HU, HB3, HB6, HBD, HO, HX, hcr⟩ := hrel
    have n1 := HB6.out.1
    have n2 := HBD.out.1
    by_cases hjk : j < k
    · obtain ⟨x, hx⟩ : ∃ x, l[p + 2 + 3 * j]? = some x := ⟨l[p + 2 + 3 * j]'(by omega), List.getElem?_eq_getElem _⟩
      obtain ⟨y, hy⟩ : ∃ y, l[p + 2 + 3 * j + 1]? = some y := ⟨l[p + 2 + 3 * j + 1]'(by omega), List.getElem?_eq_getElem _⟩
      obtain ⟨z, hz⟩ : ∃ z, l[p + 2 + 3 * j + 2]? = some z := ⟨l[p + 2 + 3 * j + 2]'(by omega), List.getElem?_eq_getElem _⟩
      have HUn := hid (show unpackTo l (p + 2) (j + 1) = if unpackB x y z = true then some (es ++ [unpackE x y z]) else none by
        rw [unpackTo, HU.out, hx, hy, hz])
      obtain ⟨_, ⟨hx20, _⟩, _⟩ := HOk.out x (List.mem_of_getElem? hx)
      obtain ⟨x1, x2, x3⟩ := x
      obtain ⟨y1, y2, y3⟩ := y
      obtain ⟨z1, z2, z3⟩ := z
      dsimp only at hx20
      obtain ⟨_, b', o', hab, hbl', hc1⟩ := Sl.at (HV.out.of wdE_len HX.out) hx
      cases hab
      obtain ⟨_, b', o', hab, _, hc2⟩ := Sl.at (HV.out.of wdE_len HX.out) hy
      cases hab
      obtain ⟨_, b', o', hab, _, hc3⟩ := Sl.at (HV.out.of wdE_len HX.out) hz
      cases hab
      have m0 := hc1 0 (by omega)
      have m1 := hc1 1 (by omega)
      have m2 := hc1 2 (by omega)
      have m3 := hc2 0 (by omega)
      have m4 := hc2 1 (by omega)
      have m5 := hc2 2 (by omega)
      have m6 := hc3 0 (by omega)
      have m7 := hc3 1 (by omega)
      have m8 := hc3 2 (by omega)
      dsimp only [wdE] at m0 m1 m2 m3 m4 m5 m6 m7 m8
      simp only [Nat.add_zero, List.getElem?_cons_zero, List.getElem?_cons_succ] at m0 m1 m2 m3 m4 m5 m6 m7 m8
      have hk32 : (k : Int) ≤ 32 := by omega
      have hjj : (j : Int) < (k : Int) := by omega
      have b0 : (0 : Int) ≤ (p : Int) + 2 + 3 * (j : Int) := by omega
      have b1 : (p : Int) + 2 + 3 * (j : Int) < (l.length : Int) := by omega
      have b2 : (0 : Int) ≤ (p : Int) + 2 + 3 * (j : Int) + 1 := by omega
      have b3 : (p : Int) + 2 + 3 * (j : Int) + 1 < (l.length : Int) := by omega
      have b4 : (0 : Int) ≤ (p : Int) + 2 + 3 * (j : Int) + 2 := by omega
      have b5 : (p : Int) + 2 + 3 * (j : Int) + 2 < (l.length : Int) := by omega
      have b6 : ((p : Int) + 2 + 3 * (j : Int)).toNat = p + 2 + 3 * j := by omega
      have b7 : ((p : Int) + 2 + 3 * (j : Int) + 1).toNat = p + 2 + 3 * j + 1 := by omega
      have b8 : ((p : Int) + 2 + 3 * (j : Int) + 2).toNat = p + 2 + 3 * j + 2 := by omega
      have b9 : IntKind.i64.wrap ((p : Int) + 2 + 3 * (j : Int) + 1) = (p : Int) + 2 + 3 * (j : Int) + 1 ∧ IntKind.i64.wrap ((p : Int) + 2 + 3 * (j : Int) + 2) = (p : Int) + 2 + 3 * (j : Int) + 2 := ⟨IntWalk.i64_in _ (by omega), IntWalk.i64_in _ (by omega)⟩
      clear hc1 hc2 hc3 hx hy hz
      cases hU : unpackB (x1, x2, x3) (y1, y2, y3) (z1, z2, z3)
      · have HUB := hid hU
        have HF := hid (show O = none by
          rw [HRd.out]
          have hn : unpackTo l (p + 2) (j + 1) = none := by rw [HUn.out, hU]; rfl
          rw [show k = (j + 1) + (k - (j + 1)) by omega, unpackTo_none hn])
        clear hU HUn HU HRd
        go_upto_region 14 with fail
        go_cut [14, 15] (fun a14 a15 wx => ∃ g : Nat, a14 = .pointer (some ⟨g, 0, none⟩) ∧ a15 = .bool false ∧ Blk wx g [.int .i64 0, .int .i64 0, .int .u32 0, .int .u32 0, .int .i64 0, .bool false] ∧ Ext wr wx ∧ wr.heap.size ≤ g)
        case first =>
          refine wp_region_held_drew (S := fun w' => w'.cell? ⟨bb, oo + (p + 2 + 3 * j) * 3, none⟩ = some (.int .i64 x1) ∧ w'.cell? ⟨bb, oo + (p + 2 + 3 * j) * 3 + 1, none⟩ = some (.int .u32 x2) ∧ w'.cell? ⟨bb, oo + (p + 2 + 3 * j) * 3 + 2, none⟩ = some (.int .u32 x3) ∧ w'.cell? ⟨bb, oo + (p + 2 + 3 * j + 1) * 3, none⟩ = some (.int .i64 y1) ∧ w'.cell? ⟨bb, oo + (p + 2 + 3 * j + 1) * 3 + 1, none⟩ = some (.int .u32 y2) ∧ w'.cell? ⟨bb, oo + (p + 2 + 3 * j + 1) * 3 + 2, none⟩ = some (.int .u32 y3) ∧ w'.cell? ⟨bb, oo + (p + 2 + 3 * j + 2) * 3, none⟩ = some (.int .i64 z1) ∧ w'.cell? ⟨bb, oo + (p + 2 + 3 * j + 2) * 3 + 1, none⟩ = some (.int .u32 z2) ∧ w'.cell? ⟨bb, oo + (p + 2 + 3 * j + 2) * 3 + 2, none⟩ = some (.int .u32 z3)) (by kernel_rfl) (by exact ⟨(show Ext wr _ by (show Ext _ _; repeat (first | with_reducible (refine Hid.out ?_; assumption) | with_reducible exact Ext.refl _ | with_reducible refine Ext.ext ?_ _ | with_reducible refine Ext.alloc ?_ _ | with_reducible refine Ext.drew ?_ | with_reducible refine Ext.setCell ?_ (by (try dsimp only); first | omega | (simp; done) | (simp; omega)) _))).cell m0, (show Ext wr _ by (show Ext _ _; repeat (first | with_reducible (refine Hid.out ?_; assumption) | with_reducible exact Ext.refl _ | with_reducible refine Ext.ext ?_ _ | with_reducible refine Ext.alloc ?_ _ | with_reducible refine Ext.drew ?_ | with_reducible refine Ext.setCell ?_ (by (try dsimp only); first | omega | (simp; done) | (simp; omega)) _))).cell m1, (show Ext wr _ by (show Ext _ _; repeat (first | with_reducible (refine Hid.out ?_; assumption) | with_reducible exact Ext.refl _ | with_reducible refine Ext.ext ?_ _ | with_reducible refine Ext.alloc ?_ _ | with_reducible refine Ext.drew ?_ | with_reducible refine Ext.setCell ?_ (by (try dsimp only); first | omega | (simp; done) | (simp; omega)) _))).cell m2, (show Ext wr _ by (show Ext _ _; repeat (first | with_reducible (refine Hid.out ?_; assumption) | with_reducible exact Ext.refl _ | with_reducible refine Ext.ext ?_ _ | with_reducible refine Ext.alloc ?_ _ | with_reducible refine Ext.drew ?_ | with_reducible refine Ext.setCell ?_ (by (try dsimp only); first | omega | (simp; done) | (simp; omega)) _))).cell m3, (show Ext wr _ by (show Ext _ _; repeat (first | with_reducible (refine Hid.out ?_; assumption) | with_reducible exact Ext.refl _ | with_reducible refine Ext.ext ?_ _ | with_reducible refine Ext.alloc ?_ _ | with_reducible refine Ext.drew ?_ | with_reducible refine Ext.setCell ?_ (by (try dsimp only); first | omega | (simp; done) | (simp; omega)) _))).cell m4, (show Ext wr _ by (show Ext _ _; repeat (first | with_reducible (refine Hid.out ?_; assumption) | with_reducible exact Ext.refl _ | with_reducible refine Ext.ext ?_ _ | with_reducible refine Ext.alloc ?_ _ | with_reducible refine Ext.drew ?_ | with_reducible refine Ext.setCell ?_ (by (try dsimp only); first | omega | (simp; done) | (simp; omega)) _))).cell m5, (show Ext wr _ by (show Ext _ _; repeat (first | with_reducible (refine Hid.out ?_; assumption) | with_reducible exact Ext.refl _ | with_reducible refine Ext.ext ?_ _ | with_reducible refine Ext.alloc ?_ _ | with_reducible refine Ext.drew ?_ | with_reducible refine Ext.setCell ?_ (by (try dsimp only); first | omega | (simp; done) | (simp; omega)) _))).cell m6, (show Ext wr _ by (show Ext _ _; repeat (first | with_reducible (refine Hid.out ?_; assumption) | with_reducible exact Ext.refl _ | with_reducible refine Ext.ext ?_ _ | with_reducible refine Ext.alloc ?_ _ | with_reducible refine Ext.drew ?_ | with_reducible refine Ext.setCell ?_ (by (try dsimp only); first | omega | (simp; done) | (simp; omega)) _))).cell m7, (show Ext wr _ by (show Ext _ _; repeat (first | with_reducible (refine Hid.out ?_; assumption) | with_reducible exact Ext.refl _ | with_reducible refine Ext.ext ?_ _ | with_reducible refine Ext.alloc ?_ _ | with_reducible refine Ext.drew ?_ | with_reducible refine Ext.setCell ?_ (by (try dsimp only); first | omega | (simp; done) | (simp; omega)) _))).cell m8⟩) (fun hHeld => ?_)
          refine take_met 0 (oi := ⟨_, _, _, _, _, _⟩) (v := ?_) (by kernel_rfl) rfl (by rfl) (fun _ _ _ h => h) (by assumption) ?_ ?_
          rotate_left 1
          · intro w hSw
            try dsimp only at hSw
            go_simp
            try with_reducible rfl
          (try simp only [Act.put, List.setIfInBounds_toArray, List.set_cons_zero, List.set_cons_succ])
          refine take_met 1 (oi := ⟨_, _, _, _, _, _⟩) (v := ?_) (by kernel_rfl) rfl (by rfl) (fun _ _ _ h => h) (by assumption) ?_ ?_
          rotate_left 1
          · intro w hSw
            try dsimp only at hSw
            go_simp
            try with_reducible rfl
          (try simp only [Act.put, List.setIfInBounds_toArray, List.set_cons_zero, List.set_cons_succ])
          refine take_met 2 (oi := ⟨_, _, _, _, _, _⟩) (v := ?_) (by kernel_rfl) rfl (by rfl) (fun _ _ _ h => h) (by assumption) ?_ ?_
          rotate_left 1
          · intro w hSw
            try dsimp only at hSw
            go_simp
            try with_reducible rfl
          (try simp only [Act.put, List.setIfInBounds_toArray, List.set_cons_zero, List.set_cons_succ])
          refine take_met 3 (oi := ⟨_, _, _, _, _, _⟩) (v := ?_) (by kernel_rfl) rfl (by rfl) (fun _ _ _ h => h) (by assumption) ?_ ?_
          rotate_left 1
          · intro w hSw
            try dsimp only at hSw
            go_simp
            try with_reducible rfl
          (try simp only [Act.put, List.setIfInBounds_toArray, List.set_cons_zero, List.set_cons_succ])
          refine take_met 4 (oi := ⟨_, _, _, _, _, _⟩) (v := ?_) (by kernel_rfl) rfl (by rfl) (fun _ _ _ h => h) (by assumption) ?_ ?_
          rotate_left 1
          · intro w hSw
            try dsimp only at hSw
            go_simp
            try with_reducible rfl
          (try simp only [Act.put, List.setIfInBounds_toArray, List.set_cons_zero, List.set_cons_succ])
          refine take_met 5 (oi := ⟨_, _, _, _, _, _⟩) (v := ?_) (by kernel_rfl) rfl (by rfl) (fun _ _ _ h => h) (by assumption) ?_ ?_
          rotate_left 1
          · intro w hSw
            try dsimp only at hSw
            go_simp
            try with_reducible rfl
          (try simp only [Act.put, List.setIfInBounds_toArray, List.set_cons_zero, List.set_cons_succ])
          refine take_met 6 (oi := ⟨_, _, _, _, _, _⟩) (v := ?_) (by kernel_rfl) rfl (by rfl) (fun _ _ _ h => h) (by assumption) ?_ ?_
          rotate_left 1
          · intro w hSw
            try dsimp only at hSw
            go_simp
            try with_reducible rfl
          (try simp only [Act.put, List.setIfInBounds_toArray, List.set_cons_zero, List.set_cons_succ])
          refine take_met 7 (oi := ⟨_, _, _, _, _, _⟩) (v := ?_) (by kernel_rfl) rfl (by rfl) (fun _ _ _ h => h) (by assumption) ?_ ?_
          rotate_left 1
          · intro w hSw
            try dsimp only at hSw
            go_simp
            try with_reducible rfl
          (try simp only [Act.put, List.setIfInBounds_toArray, List.set_cons_zero, List.set_cons_succ])
          refine take_met 8 (oi := ⟨_, _, _, _, _, _⟩) (v := ?_) (by kernel_rfl) rfl (by rfl) (fun _ _ _ h => h) (by assumption) ?_ ?_
          rotate_left 1
          · intro w hSw
            try dsimp only at hSw
            go_simp
            try with_reducible rfl
          (try simp only [Act.put, List.setIfInBounds_toArray, List.set_cons_zero, List.set_cons_succ])
          refine take_met 9 (oi := ⟨_, _, _, _, _, _⟩) (v := ?_) (by kernel_rfl) rfl (by rfl) (fun _ _ _ h => h) (by assumption) ?_ ?_
          rotate_left 1
          · intro w hSw
            try dsimp only at hSw
            go_simp
            try with_reducible rfl
          (try simp only [Act.put, List.setIfInBounds_toArray, List.set_cons_zero, List.set_cons_succ])
          refine take_met 10 (oi := ⟨_, _, _, _, _, _⟩) (v := ?_) (by kernel_rfl) rfl (by rfl) (fun _ _ _ h => h) (by assumption) ?_ ?_
          rotate_left 1
          · intro w hSw
            try dsimp only at hSw
            go_simp
            try with_reducible rfl
          (try simp only [Act.put, List.setIfInBounds_toArray, List.set_cons_zero, List.set_cons_succ])
          refine take_met 11 (oi := ⟨_, _, _, _, _, _⟩) (v := ?_) (by kernel_rfl) rfl (by rfl) (fun _ _ _ h => h) (by assumption) ?_ ?_
          rotate_left 1
          · intro w hSw
            try dsimp only at hSw
            go_simp
            try with_reducible rfl
          (try simp only [Act.put, List.setIfInBounds_toArray, List.set_cons_zero, List.set_cons_succ])
          refine take_met 12 (oi := ⟨_, _, _, _, _, _⟩) (v := ?_) (by kernel_rfl) rfl (by rfl) (fun _ _ _ h => h) (by assumption) ?_ ?_
          rotate_left 1
          · intro w hSw
            try dsimp only at hSw
            go_simp
            try with_reducible rfl
          (try simp only [Act.put, List.setIfInBounds_toArray, List.set_cons_zero, List.set_cons_succ])
          refine take_met 13 (oi := ⟨_, _, _, _, _, _⟩) (v := ?_) (by kernel_rfl) rfl (by rfl) (fun _ _ _ h => h) (by assumption) ?_ ?_
          rotate_left 1
          · intro w hSw
            try dsimp only at hSw
            go_simp
            try with_reducible rfl
          (try simp only [Act.put, List.setIfInBounds_toArray, List.set_cons_zero, List.set_cons_succ])
          refine take_met 14 (oi := ⟨_, _, _, _, _, _⟩) (v := ?_) (by kernel_rfl) rfl (by rfl) (fun _ _ _ h => h) (by assumption) ?_ ?_
          rotate_left 1
          · intro w hSw
            try dsimp only at hSw
            go_simp
            try with_reducible rfl
          (try simp only [Act.put, List.setIfInBounds_toArray, List.set_cons_zero, List.set_cons_succ])
          refine wpAnyH_ready (rs := [15, 19]) (by kernel_rfl) (by simp) ?_
          refine AllReadyH.cons (o := ⟨_, _, _, _, _, _⟩) rfl (fun K hK => ?_) ?_
          · skip
            go_simp
            first
              | (go_at_call 66; refine (runpack_any x1 x2 x3 y1 y2 y3 z1 z2 z3 hx20 _).mono ?_; rintro e w' ⟨rfl, r4, rfl⟩; rw [HUB.out]; simp only [Bool.false_eq_true, if_false])
            have hOld := hHeld
            clear hHeld
            refine hK.out _ _ (by exact ⟨(show Ext wr _ by (show Ext _ _; repeat (first | with_reducible (refine Hid.out ?_; assumption) | with_reducible exact Ext.refl _ | with_reducible refine Ext.ext ?_ _ | with_reducible refine Ext.alloc ?_ _ | with_reducible refine Ext.drew ?_ | with_reducible refine Ext.setCell ?_ (by (try dsimp only); first | omega | (simp; done) | (simp; omega)) _))).cell m0, (show Ext wr _ by (show Ext _ _; repeat (first | with_reducible (refine Hid.out ?_; assumption) | with_reducible exact Ext.refl _ | with_reducible refine Ext.ext ?_ _ | with_reducible refine Ext.alloc ?_ _ | with_reducible refine Ext.drew ?_ | with_reducible refine Ext.setCell ?_ (by (try dsimp only); first | omega | (simp; done) | (simp; omega)) _))).cell m1, (show Ext wr _ by (show Ext _ _; repeat (first | with_reducible (refine Hid.out ?_; assumption) | with_reducible exact Ext.refl _ | with_reducible refine Ext.ext ?_ _ | with_reducible refine Ext.alloc ?_ _ | with_reducible refine Ext.drew ?_ | with_reducible refine Ext.setCell ?_ (by (try dsimp only); first | omega | (simp; done) | (simp; omega)) _))).cell m2, (show Ext wr _ by (show Ext _ _; repeat (first | with_reducible (refine Hid.out ?_; assumption) | with_reducible exact Ext.refl _ | with_reducible refine Ext.ext ?_ _ | with_reducible refine Ext.alloc ?_ _ | with_reducible refine Ext.drew ?_ | with_reducible refine Ext.setCell ?_ (by (try dsimp only); first | omega | (simp; done) | (simp; omega)) _))).cell m3, (show Ext wr _ by (show Ext _ _; repeat (first | with_reducible (refine Hid.out ?_; assumption) | with_reducible exact Ext.refl _ | with_reducible refine Ext.ext ?_ _ | with_reducible refine Ext.alloc ?_ _ | with_reducible refine Ext.drew ?_ | with_reducible refine Ext.setCell ?_ (by (try dsimp only); first | omega | (simp; done) | (simp; omega)) _))).cell m4, (show Ext wr _ by (show Ext _ _; repeat (first | with_reducible (refine Hid.out ?_; assumption) | with_reducible exact Ext.refl _ | with_reducible refine Ext.ext ?_ _ | with_reducible refine Ext.alloc ?_ _ | with_reducible refine Ext.drew ?_ | with_reducible refine Ext.setCell ?_ (by (try dsimp only); first | omega | (simp; done) | (simp; omega)) _))).cell m5, (show Ext wr _ by (show Ext _ _; repeat (first | with_reducible (refine Hid.out ?_; assumption) | with_reducible exact Ext.refl _ | with_reducible refine Ext.ext ?_ _ | with_reducible refine Ext.alloc ?_ _ | with_reducible refine Ext.drew ?_ | with_reducible refine Ext.setCell ?_ (by (try dsimp only); first | omega | (simp; done) | (simp; omega)) _))).cell m6, (show Ext wr _ by (show Ext _ _; repeat (first | with_reducible (refine Hid.out ?_; assumption) | with_reducible exact Ext.refl _ | with_reducible refine Ext.ext ?_ _ | with_reducible refine Ext.alloc ?_ _ | with_reducible refine Ext.drew ?_ | with_reducible refine Ext.setCell ?_ (by (try dsimp only); first | omega | (simp; done) | (simp; omega)) _))).cell m7, (show Ext wr _ by (show Ext _ _; repeat (first | with_reducible (refine Hid.out ?_; assumption) | with_reducible exact Ext.refl _ | with_reducible refine Ext.ext ?_ _ | with_reducible refine Ext.alloc ?_ _ | with_reducible refine Ext.drew ?_ | with_reducible refine Ext.setCell ?_ (by (try dsimp only); first | omega | (simp; done) | (simp; omega)) _))).cell m8⟩) (fun hHeld => ?_)
            clear hOld hK K
            (try simp only [Act.put, List.setIfInBounds_toArray, List.set_cons_zero, List.set_cons_succ])
            refine take_met 16 (oi := ⟨_, _, _, _, _, _⟩) (v := ?_) (by kernel_rfl) rfl (by rfl) (fun _ _ _ h => h) (by assumption) ?_ ?_
            rotate_left 1
            · intro w hSw
              try dsimp only at hSw
              go_simp
              try with_reducible rfl
            (try simp only [Act.put, List.setIfInBounds_toArray, List.set_cons_zero, List.set_cons_succ])
            refine take_met 17 (oi := ⟨_, _, _, _, _, _⟩) (v := ?_) (by kernel_rfl) rfl (by rfl) (fun _ _ _ h => h) (by assumption) ?_ ?_
            rotate_left 1
            · intro w hSw
              try dsimp only at hSw
              go_simp
              try with_reducible rfl
            (try simp only [Act.put, List.setIfInBounds_toArray, List.set_cons_zero, List.set_cons_succ])
            refine take_met 18 (oi := ⟨_, _, _, _, _, _⟩) (v := ?_) (by kernel_rfl) rfl (by rfl) (fun _ _ _ h => h) (by assumption) ?_ ?_
            rotate_left 1
            · intro w hSw
              try dsimp only at hSw
              go_simp
              try with_reducible rfl
            (try simp only [Act.put, List.setIfInBounds_toArray, List.set_cons_zero, List.set_cons_succ])
            refine take_only 19 (oi := ⟨_, _, _, _, _, _⟩) (by kernel_rfl) rfl (fun K hK => ?_)
            go_simp
            have hOld := hHeld
            clear hHeld
            refine hK.out _ _ (by exact ⟨(show Ext wr _ by (show Ext _ _; repeat (first | with_reducible (refine Hid.out ?_; assumption) | with_reducible exact Ext.refl _ | with_reducible refine Ext.ext ?_ _ | with_reducible refine Ext.alloc ?_ _ | with_reducible refine Ext.drew ?_ | with_reducible refine Ext.setCell ?_ (by (try dsimp only); first | omega | (simp; done) | (simp; omega)) _))).cell m0, (show Ext wr _ by (show Ext _ _; repeat (first | with_reducible (refine Hid.out ?_; assumption) | with_reducible exact Ext.refl _ | with_reducible refine Ext.ext ?_ _ | with_reducible refine Ext.alloc ?_ _ | with_reducible refine Ext.drew ?_ | with_reducible refine Ext.setCell ?_ (by (try dsimp only); first | omega | (simp; done) | (simp; omega)) _))).cell m1, (show Ext wr _ by (show Ext _ _; repeat (first | with_reducible (refine Hid.out ?_; assumption) | with_reducible exact Ext.refl _ | with_reducible refine Ext.ext ?_ _ | with_reducible refine Ext.alloc ?_ _ | with_reducible refine Ext.drew ?_ | with_reducible refine Ext.setCell ?_ (by (try dsimp only); first | omega | (simp; done) | (simp; omega)) _))).cell m2, (show Ext wr _ by (show Ext _ _; repeat (first | with_reducible (refine Hid.out ?_; assumption) | with_reducible exact Ext.refl _ | with_reducible refine Ext.ext ?_ _ | with_reducible refine Ext.alloc ?_ _ | with_reducible refine Ext.drew ?_ | with_reducible refine Ext.setCell ?_ (by (try dsimp only); first | omega | (simp; done) | (simp; omega)) _))).cell m3, (show Ext wr _ by (show Ext _ _; repeat (first | with_reducible (refine Hid.out ?_; assumption) | with_reducible exact Ext.refl _ | with_reducible refine Ext.ext ?_ _ | with_reducible refine Ext.alloc ?_ _ | with_reducible refine Ext.drew ?_ | with_reducible refine Ext.setCell ?_ (by (try dsimp only); first | omega | (simp; done) | (simp; omega)) _))).cell m4, (show Ext wr _ by (show Ext _ _; repeat (first | with_reducible (refine Hid.out ?_; assumption) | with_reducible exact Ext.refl _ | with_reducible refine Ext.ext ?_ _ | with_reducible refine Ext.alloc ?_ _ | with_reducible refine Ext.drew ?_ | with_reducible refine Ext.setCell ?_ (by (try dsimp only); first | omega | (simp; done) | (simp; omega)) _))).cell m5, (show Ext wr _ by (show Ext _ _; repeat (first | with_reducible (refine Hid.out ?_; assumption) | with_reducible exact Ext.refl _ | with_reducible refine Ext.ext ?_ _ | with_reducible refine Ext.alloc ?_ _ | with_reducible refine Ext.drew ?_ | with_reducible refine Ext.setCell ?_ (by (try dsimp only); first | omega | (simp; done) | (simp; omega)) _))).cell m6, (show Ext wr _ by (show Ext _ _; repeat (first | with_reducible (refine Hid.out ?_; assumption) | with_reducible exact Ext.refl _ | with_reducible refine Ext.ext ?_ _ | with_reducible refine Ext.alloc ?_ _ | with_reducible refine Ext.drew ?_ | with_reducible refine Ext.setCell ?_ (by (try dsimp only); first | omega | (simp; done) | (simp; omega)) _))).cell m7, (show Ext wr _ by (show Ext _ _; repeat (first | with_reducible (refine Hid.out ?_; assumption) | with_reducible exact Ext.refl _ | with_reducible refine Ext.ext ?_ _ | with_reducible refine Ext.alloc ?_ _ | with_reducible refine Ext.drew ?_ | with_reducible refine Ext.setCell ?_ (by (try dsimp only); first | omega | (simp; done) | (simp; omega)) _))).cell m8⟩) (fun hHeld => ?_)
            clear hOld hK K
            (try simp only [Act.put, List.setIfInBounds_toArray, List.set_cons_zero, List.set_cons_succ])
            refine take_only 20 (oi := ⟨_, _, _, _, _, _⟩) (by kernel_rfl) rfl (fun K hK => ?_)
            go_simp
            have hOld := hHeld
            clear hHeld
            refine hK.out _ _ (by exact ⟨(show Ext wr _ by (show Ext _ _; repeat (first | with_reducible (refine Hid.out ?_; assumption) | with_reducible exact Ext.refl _ | with_reducible refine Ext.ext ?_ _ | with_reducible refine Ext.alloc ?_ _ | with_reducible refine Ext.drew ?_ | with_reducible refine Ext.setCell ?_ (by (try dsimp only); first | omega | (simp; done) | (simp; omega)) _))).cell m0, (show Ext wr _ by (show Ext _ _; repeat (first | with_reducible (refine Hid.out ?_; assumption) | with_reducible exact Ext.refl _ | with_reducible refine Ext.ext ?_ _ | with_reducible refine Ext.alloc ?_ _ | with_reducible refine Ext.drew ?_ | with_reducible refine Ext.setCell ?_ (by (try dsimp only); first | omega | (simp; done) | (simp; omega)) _))).cell m1, (show Ext wr _ by (show Ext _ _; repeat (first | with_reducible (refine Hid.out ?_; assumption) | with_reducible exact Ext.refl _ | with_reducible refine Ext.ext ?_ _ | with_reducible refine Ext.alloc ?_ _ | with_reducible refine Ext.drew ?_ | with_reducible refine Ext.setCell ?_ (by (try dsimp only); first | omega | (simp; done) | (simp; omega)) _))).cell m2, (show Ext wr _ by (show Ext _ _; repeat (first | with_reducible (refine Hid.out ?_; assumption) | with_reducible exact Ext.refl _ | with_reducible refine Ext.ext ?_ _ | with_reducible refine Ext.alloc ?_ _ | with_reducible refine Ext.drew ?_ | with_reducible refine Ext.setCell ?_ (by (try dsimp only); first | omega | (simp; done) | (simp; omega)) _))).cell m3, (show Ext wr _ by (show Ext _ _; repeat (first | with_reducible (refine Hid.out ?_; assumption) | with_reducible exact Ext.refl _ | with_reducible refine Ext.ext ?_ _ | with_reducible refine Ext.alloc ?_ _ | with_reducible refine Ext.drew ?_ | with_reducible refine Ext.setCell ?_ (by (try dsimp only); first | omega | (simp; done) | (simp; omega)) _))).cell m4, (show Ext wr _ by (show Ext _ _; repeat (first | with_reducible (refine Hid.out ?_; assumption) | with_reducible exact Ext.refl _ | with_reducible refine Ext.ext ?_ _ | with_reducible refine Ext.alloc ?_ _ | with_reducible refine Ext.drew ?_ | with_reducible refine Ext.setCell ?_ (by (try dsimp only); first | omega | (simp; done) | (simp; omega)) _))).cell m5, (show Ext wr _ by (show Ext _ _; repeat (first | with_reducible (refine Hid.out ?_; assumption) | with_reducible exact Ext.refl _ | with_reducible refine Ext.ext ?_ _ | with_reducible refine Ext.alloc ?_ _ | with_reducible refine Ext.drew ?_ | with_reducible refine Ext.setCell ?_ (by (try dsimp only); first | omega | (simp; done) | (simp; omega)) _))).cell m6, (show Ext wr _ by (show Ext _ _; repeat (first | with_reducible (refine Hid.out ?_; assumption) | with_reducible exact Ext.refl _ | with_reducible refine Ext.ext ?_ _ | with_reducible refine Ext.alloc ?_ _ | with_reducible refine Ext.drew ?_ | with_reducible refine Ext.setCell ?_ (by (try dsimp only); first | omega | (simp; done) | (simp; omega)) _))).cell m7, (show Ext wr _ by (show Ext _ _; repeat (first | with_reducible (refine Hid.out ?_; assumption) | with_reducible exact Ext.refl _ | with_reducible refine Ext.ext ?_ _ | with_reducible refine Ext.alloc ?_ _ | with_reducible refine Ext.drew ?_ | with_reducible refine Ext.setCell ?_ (by (try dsimp only); first | omega | (simp; done) | (simp; omega)) _))).cell m8⟩) (fun hHeld => ?_)
            clear hOld hK K
            (try simp only [Act.put, List.setIfInBounds_toArray, List.set_cons_zero, List.set_cons_succ])
            refine take_met 21 (oi := ⟨_, _, _, _, _, _⟩) (v := ?_) (by kernel_rfl) rfl (by rfl) (fun _ _ _ h => h) (by assumption) ?_ ?_
            rotate_left 1
            · intro w hSw
              try dsimp only at hSw
              go_simp
              try with_reducible rfl
            (try simp only [Act.put, List.setIfInBounds_toArray, List.set_cons_zero, List.set_cons_succ])
            refine wpAnyH_done (by kernel_rfl) ?_ _
            go_wp2_with fail
            go_meet
            exact ⟨_, rfl, rfl, by (show Blk _ _ _; repeat (first | with_reducible (refine Hid.out ?_; assumption) | with_reducible apply Blk.drew | with_reducible apply Blk.ext | ((with_reducible refine Blk.new _ _ rfl ?_); first | with_reducible rfl | focus (simp; done)) | ((with_reducible apply Blk.newE); first | with_reducible rfl | focus (simp; done)) | with_reducible apply Blk.alloc | with_reducible assumption | with_reducible apply Blk.setE | ((with_reducible refine Blk.other' ?_ ?_); first | omega | (simp; omega)) | (show List.set _ _ _ = _; exact rfl) | focus (show _ < List.length _; simp; done))), by (show Ext _ _; repeat (first | with_reducible (refine Hid.out ?_; assumption) | with_reducible exact Ext.refl _ | with_reducible refine Ext.ext ?_ _ | with_reducible refine Ext.alloc ?_ _ | with_reducible refine Ext.drew ?_ | with_reducible refine Ext.setCell ?_ (by (try dsimp only); first | omega | (simp; done) | (simp; omega)) _)), by omega⟩
          refine AllReadyH.cons (o := ⟨_, _, _, _, _, _⟩) rfl (fun K hK => ?_) AllReadyH.nil
          go_simp
          have hOld := hHeld
          clear hHeld
          refine hK.out _ _ (by exact ⟨(show Ext wr _ by (show Ext _ _; repeat (first | with_reducible (refine Hid.out ?_; assumption) | with_reducible exact Ext.refl _ | with_reducible refine Ext.ext ?_ _ | with_reducible refine Ext.alloc ?_ _ | with_reducible refine Ext.drew ?_ | with_reducible refine Ext.setCell ?_ (by (try dsimp only); first | omega | (simp; done) | (simp; omega)) _))).cell m0, (show Ext wr _ by (show Ext _ _; repeat (first | with_reducible (refine Hid.out ?_; assumption) | with_reducible exact Ext.refl _ | with_reducible refine Ext.ext ?_ _ | with_reducible refine Ext.alloc ?_ _ | with_reducible refine Ext.drew ?_ | with_reducible refine Ext.setCell ?_ (by (try dsimp only); first | omega | (simp; done) | (simp; omega)) _))).cell m1, (show Ext wr _ by (show Ext _ _; repeat (first | with_reducible (refine Hid.out ?_; assumption) | with_reducible exact Ext.refl _ | with_reducible refine Ext.ext ?_ _ | with_reducible refine Ext.alloc ?_ _ | with_reducible refine Ext.drew ?_ | with_reducible refine Ext.setCell ?_ (by (try dsimp only); first | omega | (simp; done) | (simp; omega)) _))).cell m2, (show Ext wr _ by (show Ext _ _; repeat (first | with_reducible (refine Hid.out ?_; assumption) | with_reducible exact Ext.refl _ | with_reducible refine Ext.ext ?_ _ | with_reducible refine Ext.alloc ?_ _ | with_reducible refine Ext.drew ?_ | with_reducible refine Ext.setCell ?_ (by (try dsimp only); first | omega | (simp; done) | (simp; omega)) _))).cell m3, (show Ext wr _ by (show Ext _ _; repeat (first | with_reducible (refine Hid.out ?_; assumption) | with_reducible exact Ext.refl _ | with_reducible refine Ext.ext ?_ _ | with_reducible refine Ext.alloc ?_ _ | with_reducible refine Ext.drew ?_ | with_reducible refine Ext.setCell ?_ (by (try dsimp only); first | omega | (simp; done) | (simp; omega)) _))).cell m4, (show Ext wr _ by (show Ext _ _; repeat (first | with_reducible (refine Hid.out ?_; assumption) | with_reducible exact Ext.refl _ | with_reducible refine Ext.ext ?_ _ | with_reducible refine Ext.alloc ?_ _ | with_reducible refine Ext.drew ?_ | with_reducible refine Ext.setCell ?_ (by (try dsimp only); first | omega | (simp; done) | (simp; omega)) _))).cell m5, (show Ext wr _ by (show Ext _ _; repeat (first | with_reducible (refine Hid.out ?_; assumption) | with_reducible exact Ext.refl _ | with_reducible refine Ext.ext ?_ _ | with_reducible refine Ext.alloc ?_ _ | with_reducible refine Ext.drew ?_ | with_reducible refine Ext.setCell ?_ (by (try dsimp only); first | omega | (simp; done) | (simp; omega)) _))).cell m6, (show Ext wr _ by (show Ext _ _; repeat (first | with_reducible (refine Hid.out ?_; assumption) | with_reducible exact Ext.refl _ | with_reducible refine Ext.ext ?_ _ | with_reducible refine Ext.alloc ?_ _ | with_reducible refine Ext.drew ?_ | with_reducible refine Ext.setCell ?_ (by (try dsimp only); first | omega | (simp; done) | (simp; omega)) _))).cell m7, (show Ext wr _ by (show Ext _ _; repeat (first | with_reducible (refine Hid.out ?_; assumption) | with_reducible exact Ext.refl _ | with_reducible refine Ext.ext ?_ _ | with_reducible refine Ext.alloc ?_ _ | with_reducible refine Ext.drew ?_ | with_reducible refine Ext.setCell ?_ (by (try dsimp only); first | omega | (simp; done) | (simp; omega)) _))).cell m8⟩) (fun hHeld => ?_)
          clear hOld hK K
          (try simp only [Act.put, List.setIfInBounds_toArray, List.set_cons_zero, List.set_cons_succ])
          refine take_only 15 (oi := ⟨_, _, _, _, _, _⟩) (by kernel_rfl) rfl (fun K hK => ?_)
          go_simp
          first
            | (go_at_call 66; refine (runpack_any x1 x2 x3 y1 y2 y3 z1 z2 z3 hx20 _).mono ?_; rintro e w' ⟨rfl, r4, rfl⟩; rw [HUB.out]; simp only [Bool.false_eq_true, if_false])
          have hOld := hHeld
          clear hHeld
          refine hK.out _ _ (by exact ⟨(show Ext wr _ by (show Ext _ _; repeat (first | with_reducible (refine Hid.out ?_; assumption) | with_reducible exact Ext.refl _ | with_reducible refine Ext.ext ?_ _ | with_reducible refine Ext.alloc ?_ _ | with_reducible refine Ext.drew ?_ | with_reducible refine Ext.setCell ?_ (by (try dsimp only); first | omega | (simp; done) | (simp; omega)) _))).cell m0, (show Ext wr _ by (show Ext _ _; repeat (first | with_reducible (refine Hid.out ?_; assumption) | with_reducible exact Ext.refl _ | with_reducible refine Ext.ext ?_ _ | with_reducible refine Ext.alloc ?_ _ | with_reducible refine Ext.drew ?_ | with_reducible refine Ext.setCell ?_ (by (try dsimp only); first | omega | (simp; done) | (simp; omega)) _))).cell m1, (show Ext wr _ by (show Ext _ _; repeat (first | with_reducible (refine Hid.out ?_; assumption) | with_reducible exact Ext.refl _ | with_reducible refine Ext.ext ?_ _ | with_reducible refine Ext.alloc ?_ _ | with_reducible refine Ext.drew ?_ | with_reducible refine Ext.setCell ?_ (by (try dsimp only); first | omega | (simp; done) | (simp; omega)) _))).cell m2, (show Ext wr _ by (show Ext _ _; repeat (first | with_reducible (refine Hid.out ?_; assumption) | with_reducible exact Ext.refl _ | with_reducible refine Ext.ext ?_ _ | with_reducible refine Ext.alloc ?_ _ | with_reducible refine Ext.drew ?_ | with_reducible refine Ext.setCell ?_ (by (try dsimp only); first | omega | (simp; done) | (simp; omega)) _))).cell m3, (show Ext wr _ by (show Ext _ _; repeat (first | with_reducible (refine Hid.out ?_; assumption) | with_reducible exact Ext.refl _ | with_reducible refine Ext.ext ?_ _ | with_reducible refine Ext.alloc ?_ _ | with_reducible refine Ext.drew ?_ | with_reducible refine Ext.setCell ?_ (by (try dsimp only); first | omega | (simp; done) | (simp; omega)) _))).cell m4, (show Ext wr _ by (show Ext _ _; repeat (first | with_reducible (refine Hid.out ?_; assumption) | with_reducible exact Ext.refl _ | with_reducible refine Ext.ext ?_ _ | with_reducible refine Ext.alloc ?_ _ | with_reducible refine Ext.drew ?_ | with_reducible refine Ext.setCell ?_ (by (try dsimp only); first | omega | (simp; done) | (simp; omega)) _))).cell m5, (show Ext wr _ by (show Ext _ _; repeat (first | with_reducible (refine Hid.out ?_; assumption) | with_reducible exact Ext.refl _ | with_reducible refine Ext.ext ?_ _ | with_reducible refine Ext.alloc ?_ _ | with_reducible refine Ext.drew ?_ | with_reducible refine Ext.setCell ?_ (by (try dsimp only); first | omega | (simp; done) | (simp; omega)) _))).cell m6, (show Ext wr _ by (show Ext _ _; repeat (first | with_reducible (refine Hid.out ?_; assumption) | with_reducible exact Ext.refl _ | with_reducible refine Ext.ext ?_ _ | with_reducible refine Ext.alloc ?_ _ | with_reducible refine Ext.drew ?_ | with_reducible refine Ext.setCell ?_ (by (try dsimp only); first | omega | (simp; done) | (simp; omega)) _))).cell m7, (show Ext wr _ by (show Ext _ _; repeat (first | with_reducible (refine Hid.out ?_; assumption) | with_reducible exact Ext.refl _ | with_reducible refine Ext.ext ?_ _ | with_reducible refine Ext.alloc ?_ _ | with_reducible refine Ext.drew ?_ | with_reducible refine Ext.setCell ?_ (by (try dsimp only); first | omega | (simp; done) | (simp; omega)) _))).cell m8⟩) (fun hHeld => ?_)
          clear hOld hK K
          (try simp only [Act.put, List.setIfInBounds_toArray, List.set_cons_zero, List.set_cons_succ])
          refine take_met 16 (oi := ⟨_, _, _, _, _, _⟩) (v := ?_) (by kernel_rfl) rfl (by rfl) (fun _ _ _ h => h) (by assumption) ?_ ?_
          rotate_left 1
          · intro w hSw
            try dsimp only at hSw
            go_simp
            try with_reducible rfl
          (try simp only [Act.put, List.setIfInBounds_toArray, List.set_cons_zero, List.set_cons_succ])
          refine take_met 17 (oi := ⟨_, _, _, _, _, _⟩) (v := ?_) (by kernel_rfl) rfl (by rfl) (fun _ _ _ h => h) (by assumption) ?_ ?_
          rotate_left 1
          · intro w hSw
            try dsimp only at hSw
            go_simp
            try with_reducible rfl
          (try simp only [Act.put, List.setIfInBounds_toArray, List.set_cons_zero, List.set_cons_succ])
          refine take_met 18 (oi := ⟨_, _, _, _, _, _⟩) (v := ?_) (by kernel_rfl) rfl (by rfl) (fun _ _ _ h => h) (by assumption) ?_ ?_
          rotate_left 1
          · intro w hSw
            try dsimp only at hSw
            go_simp
            try with_reducible rfl
          (try simp only [Act.put, List.setIfInBounds_toArray, List.set_cons_zero, List.set_cons_succ])
          refine take_only 20 (oi := ⟨_, _, _, _, _, _⟩) (by kernel_rfl) rfl (fun K hK => ?_)
          go_simp
          have hOld := hHeld
          clear hHeld
          refine hK.out _ _ (by exact ⟨(show Ext wr _ by (show Ext _ _; repeat (first | with_reducible (refine Hid.out ?_; assumption) | with_reducible exact Ext.refl _ | with_reducible refine Ext.ext ?_ _ | with_reducible refine Ext.alloc ?_ _ | with_reducible refine Ext.drew ?_ | with_reducible refine Ext.setCell ?_ (by (try dsimp only); first | omega | (simp; done) | (simp; omega)) _))).cell m0, (show Ext wr _ by (show Ext _ _; repeat (first | with_reducible (refine Hid.out ?_; assumption) | with_reducible exact Ext.refl _ | with_reducible refine Ext.ext ?_ _ | with_reducible refine Ext.alloc ?_ _ | with_reducible refine Ext.drew ?_ | with_reducible refine Ext.setCell ?_ (by (try dsimp only); first | omega | (simp; done) | (simp; omega)) _))).cell m1, (show Ext wr _ by (show Ext _ _; repeat (first | with_reducible (refine Hid.out ?_; assumption) | with_reducible exact Ext.refl _ | with_reducible refine Ext.ext ?_ _ | with_reducible refine Ext.alloc ?_ _ | with_reducible refine Ext.drew ?_ | with_reducible refine Ext.setCell ?_ (by (try dsimp only); first | omega | (simp; done) | (simp; omega)) _))).cell m2, (show Ext wr _ by (show Ext _ _; repeat (first | with_reducible (refine Hid.out ?_; assumption) | with_reducible exact Ext.refl _ | with_reducible refine Ext.ext ?_ _ | with_reducible refine Ext.alloc ?_ _ | with_reducible refine Ext.drew ?_ | with_reducible refine Ext.setCell ?_ (by (try dsimp only); first | omega | (simp; done) | (simp; omega)) _))).cell m3, (show Ext wr _ by (show Ext _ _; repeat (first | with_reducible (refine Hid.out ?_; assumption) | with_reducible exact Ext.refl _ | with_reducible refine Ext.ext ?_ _ | with_reducible refine Ext.alloc ?_ _ | with_reducible refine Ext.drew ?_ | with_reducible refine Ext.setCell ?_ (by (try dsimp only); first | omega | (simp; done) | (simp; omega)) _))).cell m4, (show Ext wr _ by (show Ext _ _; repeat (first | with_reducible (refine Hid.out ?_; assumption) | with_reducible exact Ext.refl _ | with_reducible refine Ext.ext ?_ _ | with_reducible refine Ext.alloc ?_ _ | with_reducible refine Ext.drew ?_ | with_reducible refine Ext.setCell ?_ (by (try dsimp only); first | omega | (simp; done) | (simp; omega)) _))).cell m5, (show Ext wr _ by (show Ext _ _; repeat (first | with_reducible (refine Hid.out ?_; assumption) | with_reducible exact Ext.refl _ | with_reducible refine Ext.ext ?_ _ | with_reducible refine Ext.alloc ?_ _ | with_reducible refine Ext.drew ?_ | with_reducible refine Ext.setCell ?_ (by (try dsimp only); first | omega | (simp; done) | (simp; omega)) _))).cell m6, (show Ext wr _ by (show Ext _ _; repeat (first | with_reducible (refine Hid.out ?_; assumption) | with_reducible exact Ext.refl _ | with_reducible refine Ext.ext ?_ _ | with_reducible refine Ext.alloc ?_ _ | with_reducible refine Ext.drew ?_ | with_reducible refine Ext.setCell ?_ (by (try dsimp only); first | omega | (simp; done) | (simp; omega)) _))).cell m7, (show Ext wr _ by (show Ext _ _; repeat (first | with_reducible (refine Hid.out ?_; assumption) | with_reducible exact Ext.refl _ | with_reducible refine Ext.ext ?_ _ | with_reducible refine Ext.alloc ?_ _ | with_reducible refine Ext.drew ?_ | with_reducible refine Ext.setCell ?_ (by (try dsimp only); first | omega | (simp; done) | (simp; omega)) _))).cell m8⟩) (fun hHeld => ?_)
          clear hOld hK K
          (try simp only [Act.put, List.setIfInBounds_toArray, List.set_cons_zero, List.set_cons_succ])
          refine take_met 21 (oi := ⟨_, _, _, _, _, _⟩) (v := ?_) (by kernel_rfl) rfl (by rfl) (fun _ _ _ h => h) (by assumption) ?_ ?_
          rotate_left 1
          · intro w hSw
            try dsimp only at hSw
            go_simp
            try with_reducible rfl
          (try simp only [Act.put, List.setIfInBounds_toArray, List.set_cons_zero, List.set_cons_succ])
          refine wpAnyH_done (by kernel_rfl) ?_ _
          go_wp2_with fail
          go_meet
          exact ⟨_, rfl, rfl, by (show Blk _ _ _; repeat (first | with_reducible (refine Hid.out ?_; assumption) | with_reducible apply Blk.drew | with_reducible apply Blk.ext | ((with_reducible refine Blk.new _ _ rfl ?_); first | with_reducible rfl | focus (simp; done)) | ((with_reducible apply Blk.newE); first | with_reducible rfl | focus (simp; done)) | with_reducible apply Blk.alloc | with_reducible assumption | with_reducible apply Blk.setE | ((with_reducible refine Blk.other' ?_ ?_); first | omega | (simp; omega)) | (show List.set _ _ _ = _; exact rfl) | focus (show _ < List.length _; simp; done))), by (show Ext _ _; repeat (first | with_reducible (refine Hid.out ?_; assumption) | with_reducible exact Ext.refl _ | with_reducible refine Ext.ext ?_ _ | with_reducible refine Ext.alloc ?_ _ | with_reducible refine Ext.drew ?_ | with_reducible refine Ext.setCell ?_ (by (try dsimp only); first | omega | (simp; done) | (simp; omega)) _)), by omega⟩
        case rest =>
          obtain ⟨g, rfl, rfl, hbg, hxw, hlg⟩ := hcut
          have HG := hid hbg
          have HX2 := hid hxw
          have HXX := hid (HX.out.trans hxw)
          clear hbg hxw m0 m1 m2 m3 m4 m5 m6 m7 m8 b0 b1 b2 b3 b4 b5 b6 b7 b8 b9
          obtain ⟨d0, d1, d2, d3⟩ := (HB6.out.of HX2.out).four
          have d4 := (HB6.out.of HX2.out).2.1 0
          have d5 := (HB6.out.of HX2.out).2.1 1
          have d6 := (HB6.out.of HX2.out).2.1 2
          have d7 := (HB6.out.of HX2.out).2.1 3
          have d8 := (HB6.out.of HX2.out).1
          (repeat (first | go_values | go_skip | go_guarded | go_step | go_upon | (simp only [Int.not_lt, Int.not_le] at *; go_simp) | (go_ite <;> go_prune <;> (try go_simp))))
          exact bodyPost_ret (v := .tuple #[.agg #[.int .i64 0, .int .i64 0, .int .i64 0, .slice none 0 0], .bool false]) (by simp [results, Tryd.results55, go_sem, d0, d1, d2, d3, d8]) rfl (RRP.no HF.out (by (show Ext _ _; repeat (first | with_reducible (refine Hid.out ?_; assumption) | with_reducible exact Ext.refl _ | with_reducible refine Ext.ext ?_ _ | with_reducible refine Ext.alloc ?_ _ | with_reducible refine Ext.drew ?_ | with_reducible refine Ext.setCell ?_ (by (try dsimp only); first | omega | (simp; done) | (simp; omega)) _))))
      · have HUB := hid hU
        have HUn2 := hid (show unpackTo l (p + 2) (j + 1) = some (es ++ [⟨x1, y1, y2, y3, z1, x2 == 1⟩]) by rw [HUn.out, hU]; rfl)
        have hln := unpackTo_len HU.out
        have HLn := hid (show es.length + 1 ≤ 1000000 by rw [hln]; omega)
        clear hU HUn HU hln
        obtain ⟨av, cv, rfl⟩ := Own.shape HO.out
        go_upto_region 14 with fail
        go_cut [14, 15] (fun a14 a15 wx => ∃ g : Nat, a14 = .pointer (some ⟨g, 0, none⟩) ∧ a15 = .bool true ∧ Blk wx g [.int .i64 x1, .int .i64 y1, .int .u32 y2, .int .u32 y3, .int .i64 z1, .bool (x2 == 1)] ∧ Ext wr wx ∧ wr.heap.size ≤ g)
        case first =>
          refine wp_region_held_drew (S := fun w' => w'.cell? ⟨bb, oo + (p + 2 + 3 * j) * 3, none⟩ = some (.int .i64 x1) ∧ w'.cell? ⟨bb, oo + (p + 2 + 3 * j) * 3 + 1, none⟩ = some (.int .u32 x2) ∧ w'.cell? ⟨bb, oo + (p + 2 + 3 * j) * 3 + 2, none⟩ = some (.int .u32 x3) ∧ w'.cell? ⟨bb, oo + (p + 2 + 3 * j + 1) * 3, none⟩ = some (.int .i64 y1) ∧ w'.cell? ⟨bb, oo + (p + 2 + 3 * j + 1) * 3 + 1, none⟩ = some (.int .u32 y2) ∧ w'.cell? ⟨bb, oo + (p + 2 + 3 * j + 1) * 3 + 2, none⟩ = some (.int .u32 y3) ∧ w'.cell? ⟨bb, oo + (p + 2 + 3 * j + 2) * 3, none⟩ = some (.int .i64 z1) ∧ w'.cell? ⟨bb, oo + (p + 2 + 3 * j + 2) * 3 + 1, none⟩ = some (.int .u32 z2) ∧ w'.cell? ⟨bb, oo + (p + 2 + 3 * j + 2) * 3 + 2, none⟩ = some (.int .u32 z3)) (by kernel_rfl) (by exact ⟨(show Ext wr _ by (show Ext _ _; repeat (first | with_reducible (refine Hid.out ?_; assumption) | with_reducible exact Ext.refl _ | with_reducible refine Ext.ext ?_ _ | with_reducible refine Ext.alloc ?_ _ | with_reducible refine Ext.drew ?_ | with_reducible refine Ext.setCell ?_ (by (try dsimp only); first | omega | (simp; done) | (simp; omega)) _))).cell m0, (show Ext wr _ by (show Ext _ _; repeat (first | with_reducible (refine Hid.out ?_; assumption) | with_reducible exact Ext.refl _ | with_reducible refine Ext.ext ?_ _ | with_reducible refine Ext.alloc ?_ _ | with_reducible refine Ext.drew ?_ | with_reducible refine Ext.setCell ?_ (by (try dsimp only); first | omega | (simp; done) | (simp; omega)) _))).cell m1, (show Ext wr _ by (show Ext _ _; repeat (first | with_reducible (refine Hid.out ?_; assumption) | with_reducible exact Ext.refl _ | with_reducible refine Ext.ext ?_ _ | with_reducible refine Ext.alloc ?_ _ | with_reducible refine Ext.drew ?_ | with_reducible refine Ext.setCell ?_ (by (try dsimp only); first | omega | (simp; done) | (simp; omega)) _))).cell m2, (show Ext wr _ by (show Ext _ _; repeat (first | with_reducible (refine Hid.out ?_; assumption) | with_reducible exact Ext.refl _ | with_reducible refine Ext.ext ?_ _ | with_reducible refine Ext.alloc ?_ _ | with_reducible refine Ext.drew ?_ | with_reducible refine Ext.setCell ?_ (by (try dsimp only); first | omega | (simp; done) | (simp; omega)) _))).cell m3, (show Ext wr _ by (show Ext _ _; repeat (first | with_reducible (refine Hid.out ?_; assumption) | with_reducible exact Ext.refl _ | with_reducible refine Ext.ext ?_ _ | with_reducible refine Ext.alloc ?_ _ | with_reducible refine Ext.drew ?_ | with_reducible refine Ext.setCell ?_ (by (try dsimp only); first | omega | (simp; done) | (simp; omega)) _))).cell m4, (show Ext wr _ by (show Ext _ _; repeat (first | with_reducible (refine Hid.out ?_; assumption) | with_reducible exact Ext.refl _ | with_reducible refine Ext.ext ?_ _ | with_reducible refine Ext.alloc ?_ _ | with_reducible refine Ext.drew ?_ | with_reducible refine Ext.setCell ?_ (by (try dsimp only); first | omega | (simp; done) | (simp; omega)) _))).cell m5, (show Ext wr _ by (show Ext _ _; repeat (first | with_reducible (refine Hid.out ?_; assumption) | with_reducible exact Ext.refl _ | with_reducible refine Ext.ext ?_ _ | with_reducible refine Ext.alloc ?_ _ | with_reducible refine Ext.drew ?_ | with_reducible refine Ext.setCell ?_ (by (try dsimp only); first | omega | (simp; done) | (simp; omega)) _))).cell m6, (show Ext wr _ by (show Ext _ _; repeat (first | with_reducible (refine Hid.out ?_; assumption) | with_reducible exact Ext.refl _ | with_reducible refine Ext.ext ?_ _ | with_reducible refine Ext.alloc ?_ _ | with_reducible refine Ext.drew ?_ | with_reducible refine Ext.setCell ?_ (by (try dsimp only); first | omega | (simp; done) | (simp; omega)) _))).cell m7, (show Ext wr _ by (show Ext _ _; repeat (first | with_reducible (refine Hid.out ?_; assumption) | with_reducible exact Ext.refl _ | with_reducible refine Ext.ext ?_ _ | with_reducible refine Ext.alloc ?_ _ | with_reducible refine Ext.drew ?_ | with_reducible refine Ext.setCell ?_ (by (try dsimp only); first | omega | (simp; done) | (simp; omega)) _))).cell m8⟩) (fun hHeld => ?_)
          refine take_met 0 (oi := ⟨_, _, _, _, _, _⟩) (v := ?_) (by kernel_rfl) rfl (by rfl) (fun _ _ _ h => h) (by assumption) ?_ ?_
          rotate_left 1
          · intro w hSw
            try dsimp only at hSw
            go_simp
            try with_reducible rfl
          (try simp only [Act.put, List.setIfInBounds_toArray, List.set_cons_zero, List.set_cons_succ])
          refine take_met 1 (oi := ⟨_, _, _, _, _, _⟩) (v := ?_) (by kernel_rfl) rfl (by rfl) (fun _ _ _ h => h) (by assumption) ?_ ?_
          rotate_left 1
          · intro w hSw
            try dsimp only at hSw
            go_simp
            try with_reducible rfl
          (try simp only [Act.put, List.setIfInBounds_toArray, List.set_cons_zero, List.set_cons_succ])
          refine take_met 2 (oi := ⟨_, _, _, _, _, _⟩) (v := ?_) (by kernel_rfl) rfl (by rfl) (fun _ _ _ h => h) (by assumption) ?_ ?_
          rotate_left 1
          · intro w hSw
            try dsimp only at hSw
            go_simp
            try with_reducible rfl
          (try simp only [Act.put, List.setIfInBounds_toArray, List.set_cons_zero, List.set_cons_succ])
          refine take_met 3 (oi := ⟨_, _, _, _, _, _⟩) (v := ?_) (by kernel_rfl) rfl (by rfl) (fun _ _ _ h => h) (by assumption) ?_ ?_
          rotate_left 1
          · intro w hSw
            try dsimp only at hSw
            go_simp
            try with_reducible rfl
          (try simp only [Act.put, List.setIfInBounds_toArray, List.set_cons_zero, List.set_cons_succ])
          refine take_met 4 (oi := ⟨_, _, _, _, _, _⟩) (v := ?_) (by kernel_rfl) rfl (by rfl) (fun _ _ _ h => h) (by assumption) ?_ ?_
          rotate_left 1
          · intro w hSw
            try dsimp only at hSw
            go_simp
            try with_reducible rfl
          (try simp only [Act.put, List.setIfInBounds_toArray, List.set_cons_zero, List.set_cons_succ])
          refine take_met 5 (oi := ⟨_, _, _, _, _, _⟩) (v := ?_) (by kernel_rfl) rfl (by rfl) (fun _ _ _ h => h) (by assumption) ?_ ?_
          rotate_left 1
          · intro w hSw
            try dsimp only at hSw
            go_simp
            try with_reducible rfl
          (try simp only [Act.put, List.setIfInBounds_toArray, List.set_cons_zero, List.set_cons_succ])
          refine take_met 6 (oi := ⟨_, _, _, _, _, _⟩) (v := ?_) (by kernel_rfl) rfl (by rfl) (fun _ _ _ h => h) (by assumption) ?_ ?_
          rotate_left 1
          · intro w hSw
            try dsimp only at hSw
            go_simp
            try with_reducible rfl
          (try simp only [Act.put, List.setIfInBounds_toArray, List.set_cons_zero, List.set_cons_succ])
          refine take_met 7 (oi := ⟨_, _, _, _, _, _⟩) (v := ?_) (by kernel_rfl) rfl (by rfl) (fun _ _ _ h => h) (by assumption) ?_ ?_
          rotate_left 1
          · intro w hSw
            try dsimp only at hSw
            go_simp
            try with_reducible rfl
          (try simp only [Act.put, List.setIfInBounds_toArray, List.set_cons_zero, List.set_cons_succ])
          refine take_met 8 (oi := ⟨_, _, _, _, _, _⟩) (v := ?_) (by kernel_rfl) rfl (by rfl) (fun _ _ _ h => h) (by assumption) ?_ ?_
          rotate_left 1
          · intro w hSw
            try dsimp only at hSw
            go_simp
            try with_reducible rfl
          (try simp only [Act.put, List.setIfInBounds_toArray, List.set_cons_zero, List.set_cons_succ])
          refine take_met 9 (oi := ⟨_, _, _, _, _, _⟩) (v := ?_) (by kernel_rfl) rfl (by rfl) (fun _ _ _ h => h) (by assumption) ?_ ?_
          rotate_left 1
          · intro w hSw
            try dsimp only at hSw
            go_simp
            try with_reducible rfl
          (try simp only [Act.put, List.setIfInBounds_toArray, List.set_cons_zero, List.set_cons_succ])
          refine take_met 10 (oi := ⟨_, _, _, _, _, _⟩) (v := ?_) (by kernel_rfl) rfl (by rfl) (fun _ _ _ h => h) (by assumption) ?_ ?_
          rotate_left 1
          · intro w hSw
            try dsimp only at hSw
            go_simp
            try with_reducible rfl
          (try simp only [Act.put, List.setIfInBounds_toArray, List.set_cons_zero, List.set_cons_succ])
          refine take_met 11 (oi := ⟨_, _, _, _, _, _⟩) (v := ?_) (by kernel_rfl) rfl (by rfl) (fun _ _ _ h => h) (by assumption) ?_ ?_
          rotate_left 1
          · intro w hSw
            try dsimp only at hSw
            go_simp
            try with_reducible rfl
          (try simp only [Act.put, List.setIfInBounds_toArray, List.set_cons_zero, List.set_cons_succ])
          refine take_met 12 (oi := ⟨_, _, _, _, _, _⟩) (v := ?_) (by kernel_rfl) rfl (by rfl) (fun _ _ _ h => h) (by assumption) ?_ ?_
          rotate_left 1
          · intro w hSw
            try dsimp only at hSw
            go_simp
            try with_reducible rfl
          (try simp only [Act.put, List.setIfInBounds_toArray, List.set_cons_zero, List.set_cons_succ])
          refine take_met 13 (oi := ⟨_, _, _, _, _, _⟩) (v := ?_) (by kernel_rfl) rfl (by rfl) (fun _ _ _ h => h) (by assumption) ?_ ?_
          rotate_left 1
          · intro w hSw
            try dsimp only at hSw
            go_simp
            try with_reducible rfl
          (try simp only [Act.put, List.setIfInBounds_toArray, List.set_cons_zero, List.set_cons_succ])
          refine take_met 14 (oi := ⟨_, _, _, _, _, _⟩) (v := ?_) (by kernel_rfl) rfl (by rfl) (fun _ _ _ h => h) (by assumption) ?_ ?_
          rotate_left 1
          · intro w hSw
            try dsimp only at hSw
            go_simp
            try with_reducible rfl
          (try simp only [Act.put, List.setIfInBounds_toArray, List.set_cons_zero, List.set_cons_succ])
          refine wpAnyH_ready (rs := [15, 19]) (by kernel_rfl) (by simp) ?_
          refine AllReadyH.cons (o := ⟨_, _, _, _, _, _⟩) rfl (fun K hK => ?_) ?_
          · skip
            go_simp
            first
              | (go_at_call 66; refine (runpack_any x1 x2 x3 y1 y2 y3 z1 z2 z3 hx20 _).mono ?_; rintro e w' ⟨rfl, r4, rfl⟩; rw [HUB.out]; simp only [if_true])
            have hOld := hHeld
            clear hHeld
            refine hK.out _ _ (by exact ⟨(show Ext wr _ by (show Ext _ _; repeat (first | with_reducible (refine Hid.out ?_; assumption) | with_reducible exact Ext.refl _ | with_reducible refine Ext.ext ?_ _ | with_reducible refine Ext.alloc ?_ _ | with_reducible refine Ext.drew ?_ | with_reducible refine Ext.setCell ?_ (by (try dsimp only); first | omega | (simp; done) | (simp; omega)) _))).cell m0, (show Ext wr _ by (show Ext _ _; repeat (first | with_reducible (refine Hid.out ?_; assumption) | with_reducible exact Ext.refl _ | with_reducible refine Ext.ext ?_ _ | with_reducible refine Ext.alloc ?_ _ | with_reducible refine Ext.drew ?_ | with_reducible refine Ext.setCell ?_ (by (try dsimp only); first | omega | (simp; done) | (simp; omega)) _))).cell m1, (show Ext wr _ by (show Ext _ _; repeat (first | with_reducible (refine Hid.out ?_; assumption) | with_reducible exact Ext.refl _ | with_reducible refine Ext.ext ?_ _ | with_reducible refine Ext.alloc ?_ _ | with_reducible refine Ext.drew ?_ | with_reducible refine Ext.setCell ?_ (by (try dsimp only); first | omega | (simp; done) | (simp; omega)) _))).cell m2, (show Ext wr _ by (show Ext _ _; repeat (first | with_reducible (refine Hid.out ?_; assumption) | with_reducible exact Ext.refl _ | with_reducible refine Ext.ext ?_ _ | with_reducible refine Ext.alloc ?_ _ | with_reducible refine Ext.drew ?_ | with_reducible refine Ext.setCell ?_ (by (try dsimp only); first | omega | (simp; done) | (simp; omega)) _))).cell m3, (show Ext wr _ by (show Ext _ _; repeat (first | with_reducible (refine Hid.out ?_; assumption) | with_reducible exact Ext.refl _ | with_reducible refine Ext.ext ?_ _ | with_reducible refine Ext.alloc ?_ _ | with_reducible refine Ext.drew ?_ | with_reducible refine Ext.setCell ?_ (by (try dsimp only); first | omega | (simp; done) | (simp; omega)) _))).cell m4, (show Ext wr _ by (show Ext _ _; repeat (first | with_reducible (refine Hid.out ?_; assumption) | with_reducible exact Ext.refl _ | with_reducible refine Ext.ext ?_ _ | with_reducible refine Ext.alloc ?_ _ | with_reducible refine Ext.drew ?_ | with_reducible refine Ext.setCell ?_ (by (try dsimp only); first | omega | (simp; done) | (simp; omega)) _))).cell m5, (show Ext wr _ by (show Ext _ _; repeat (first | with_reducible (refine Hid.out ?_; assumption) | with_reducible exact Ext.refl _ | with_reducible refine Ext.ext ?_ _ | with_reducible refine Ext.alloc ?_ _ | with_reducible refine Ext.drew ?_ | with_reducible refine Ext.setCell ?_ (by (try dsimp only); first | omega | (simp; done) | (simp; omega)) _))).cell m6, (show Ext wr _ by (show Ext _ _; repeat (first | with_reducible (refine Hid.out ?_; assumption) | with_reducible exact Ext.refl _ | with_reducible refine Ext.ext ?_ _ | with_reducible refine Ext.alloc ?_ _ | with_reducible refine Ext.drew ?_ | with_reducible refine Ext.setCell ?_ (by (try dsimp only); first | omega | (simp; done) | (simp; omega)) _))).cell m7, (show Ext wr _ by (show Ext _ _; repeat (first | with_reducible (refine Hid.out ?_; assumption) | with_reducible exact Ext.refl _ | with_reducible refine Ext.ext ?_ _ | with_reducible refine Ext.alloc ?_ _ | with_reducible refine Ext.drew ?_ | with_reducible refine Ext.setCell ?_ (by (try dsimp only); first | omega | (simp; done) | (simp; omega)) _))).cell m8⟩) (fun hHeld => ?_)
            clear hOld hK K
            (try simp only [Act.put, List.setIfInBounds_toArray, List.set_cons_zero, List.set_cons_succ])
            refine take_met 16 (oi := ⟨_, _, _, _, _, _⟩) (v := ?_) (by kernel_rfl) rfl (by rfl) (fun _ _ _ h => h) (by assumption) ?_ ?_
            rotate_left 1
            · intro w hSw
              try dsimp only at hSw
              go_simp
              try with_reducible rfl
            (try simp only [Act.put, List.setIfInBounds_toArray, List.set_cons_zero, List.set_cons_succ])
            refine take_met 17 (oi := ⟨_, _, _, _, _, _⟩) (v := ?_) (by kernel_rfl) rfl (by rfl) (fun _ _ _ h => h) (by assumption) ?_ ?_
            rotate_left 1
            · intro w hSw
              try dsimp only at hSw
              go_simp
              try with_reducible rfl
            (try simp only [Act.put, List.setIfInBounds_toArray, List.set_cons_zero, List.set_cons_succ])
            refine take_met 18 (oi := ⟨_, _, _, _, _, _⟩) (v := ?_) (by kernel_rfl) rfl (by rfl) (fun _ _ _ h => h) (by assumption) ?_ ?_
            rotate_left 1
            · intro w hSw
              try dsimp only at hSw
              go_simp
              try with_reducible rfl
            (try simp only [Act.put, List.setIfInBounds_toArray, List.set_cons_zero, List.set_cons_succ])
            refine take_only 19 (oi := ⟨_, _, _, _, _, _⟩) (by kernel_rfl) rfl (fun K hK => ?_)
            go_simp
            have hOld := hHeld
            clear hHeld
            refine hK.out _ _ (by exact ⟨(show Ext wr _ by (show Ext _ _; repeat (first | with_reducible (refine Hid.out ?_; assumption) | with_reducible exact Ext.refl _ | with_reducible refine Ext.ext ?_ _ | with_reducible refine Ext.alloc ?_ _ | with_reducible refine Ext.drew ?_ | with_reducible refine Ext.setCell ?_ (by (try dsimp only); first | omega | (simp; done) | (simp; omega)) _))).cell m0, (show Ext wr _ by (show Ext _ _; repeat (first | with_reducible (refine Hid.out ?_; assumption) | with_reducible exact Ext.refl _ | with_reducible refine Ext.ext ?_ _ | with_reducible refine Ext.alloc ?_ _ | with_reducible refine Ext.drew ?_ | with_reducible refine Ext.setCell ?_ (by (try dsimp only); first | omega | (simp; done) | (simp; omega)) _))).cell m1, (show Ext wr _ by (show Ext _ _; repeat (first | with_reducible (refine Hid.out ?_; assumption) | with_reducible exact Ext.refl _ | with_reducible refine Ext.ext ?_ _ | with_reducible refine Ext.alloc ?_ _ | with_reducible refine Ext.drew ?_ | with_reducible refine Ext.setCell ?_ (by (try dsimp only); first | omega | (simp; done) | (simp; omega)) _))).cell m2, (show Ext wr _ by (show Ext _ _; repeat (first | with_reducible (refine Hid.out ?_; assumption) | with_reducible exact Ext.refl _ | with_reducible refine Ext.ext ?_ _ | with_reducible refine Ext.alloc ?_ _ | with_reducible refine Ext.drew ?_ | with_reducible refine Ext.setCell ?_ (by (try dsimp only); first | omega | (simp; done) | (simp; omega)) _))).cell m3, (show Ext wr _ by (show Ext _ _; repeat (first | with_reducible (refine Hid.out ?_; assumption) | with_reducible exact Ext.refl _ | with_reducible refine Ext.ext ?_ _ | with_reducible refine Ext.alloc ?_ _ | with_reducible refine Ext.drew ?_ | with_reducible refine Ext.setCell ?_ (by (try dsimp only); first | omega | (simp; done) | (simp; omega)) _))).cell m4, (show Ext wr _ by (show Ext _ _; repeat (first | with_reducible (refine Hid.out ?_; assumption) | with_reducible exact Ext.refl _ | with_reducible refine Ext.ext ?_ _ | with_reducible refine Ext.alloc ?_ _ | with_reducible refine Ext.drew ?_ | with_reducible refine Ext.setCell ?_ (by (try dsimp only); first | omega | (simp; done) | (simp; omega)) _))).cell m5, (show Ext wr _ by (show Ext _ _; repeat (first | with_reducible (refine Hid.out ?_; assumption) | with_reducible exact Ext.refl _ | with_reducible refine Ext.ext ?_ _ | with_reducible refine Ext.alloc ?_ _ | with_reducible refine Ext.drew ?_ | with_reducible refine Ext.setCell ?_ (by (try dsimp only); first | omega | (simp; done) | (simp; omega)) _))).cell m6, (show Ext wr _ by (show Ext _ _; repeat (first | with_reducible (refine Hid.out ?_; assumption) | with_reducible exact Ext.refl _ | with_reducible refine Ext.ext ?_ _ | with_reducible refine Ext.alloc ?_ _ | with_reducible refine Ext.drew ?_ | with_reducible refine Ext.setCell ?_ (by (try dsimp only); first | omega | (simp; done) | (simp; omega)) _))).cell m7, (show Ext wr _ by (show Ext _ _; repeat (first | with_reducible (refine Hid.out ?_; assumption) | with_reducible exact Ext.refl _ | with_reducible refine Ext.ext ?_ _ | with_reducible refine Ext.alloc ?_ _ | with_reducible refine Ext.drew ?_ | with_reducible refine Ext.setCell ?_ (by (try dsimp only); first | omega | (simp; done) | (simp; omega)) _))).cell m8⟩) (fun hHeld => ?_)
            clear hOld hK K
            (try simp only [Act.put, List.setIfInBounds_toArray, List.set_cons_zero, List.set_cons_succ])
            refine take_only 20 (oi := ⟨_, _, _, _, _, _⟩) (by kernel_rfl) rfl (fun K hK => ?_)
            go_simp
            have hOld := hHeld
            clear hHeld
            refine hK.out _ _ (by exact ⟨(show Ext wr _ by (show Ext _ _; repeat (first | with_reducible (refine Hid.out ?_; assumption) | with_reducible exact Ext.refl _ | with_reducible refine Ext.ext ?_ _ | with_reducible refine Ext.alloc ?_ _ | with_reducible refine Ext.drew ?_ | with_reducible refine Ext.setCell ?_ (by (try dsimp only); first | omega | (simp; done) | (simp; omega)) _))).cell m0, (show Ext wr _ by (show Ext _ _; repeat (first | with_reducible (refine Hid.out ?_; assumption) | with_reducible exact Ext.refl _ | with_reducible refine Ext.ext ?_ _ | with_reducible refine Ext.alloc ?_ _ | with_reducible refine Ext.drew ?_ | with_reducible refine Ext.setCell ?_ (by (try dsimp only); first | omega | (simp; done) | (simp; omega)) _))).cell m1, (show Ext wr _ by (show Ext _ _; repeat (first | with_reducible (refine Hid.out ?_; assumption) | with_reducible exact Ext.refl _ | with_reducible refine Ext.ext ?_ _ | with_reducible refine Ext.alloc ?_ _ | with_reducible refine Ext.drew ?_ | with_reducible refine Ext.setCell ?_ (by (try dsimp only); first | omega | (simp; done) | (simp; omega)) _))).cell m2, (show Ext wr _ by (show Ext _ _; repeat (first | with_reducible (refine Hid.out ?_; assumption) | with_reducible exact Ext.refl _ | with_reducible refine Ext.ext ?_ _ | with_reducible refine Ext.alloc ?_ _ | with_reducible refine Ext.drew ?_ | with_reducible refine Ext.setCell ?_ (by (try dsimp only); first | omega | (simp; done) | (simp; omega)) _))).cell m3, (show Ext wr _ by (show Ext _ _; repeat (first | with_reducible (refine Hid.out ?_; assumption) | with_reducible exact Ext.refl _ | with_reducible refine Ext.ext ?_ _ | with_reducible refine Ext.alloc ?_ _ | with_reducible refine Ext.drew ?_ | with_reducible refine Ext.setCell ?_ (by (try dsimp only); first | omega | (simp; done) | (simp; omega)) _))).cell m4, (show Ext wr _ by (show Ext _ _; repeat (first | with_reducible (refine Hid.out ?_; assumption) | with_reducible exact Ext.refl _ | with_reducible refine Ext.ext ?_ _ | with_reducible refine Ext.alloc ?_ _ | with_reducible refine Ext.drew ?_ | with_reducible refine Ext.setCell ?_ (by (try dsimp only); first | omega | (simp; done) | (simp; omega)) _))).cell m5, (show Ext wr _ by (show Ext _ _; repeat (first | with_reducible (refine Hid.out ?_; assumption) | with_reducible exact Ext.refl _ | with_reducible refine Ext.ext ?_ _ | with_reducible refine Ext.alloc ?_ _ | with_reducible refine Ext.drew ?_ | with_reducible refine Ext.setCell ?_ (by (try dsimp only); first | omega | (simp; done) | (simp; omega)) _))).cell m6, (show Ext wr _ by (show Ext _ _; repeat (first | with_reducible (refine Hid.out ?_; assumption) | with_reducible exact Ext.refl _ | with_reducible refine Ext.ext ?_ _ | with_reducible refine Ext.alloc ?_ _ | with_reducible refine Ext.drew ?_ | with_reducible refine Ext.setCell ?_ (by (try dsimp only); first | omega | (simp; done) | (simp; omega)) _))).cell m7, (show Ext wr _ by (show Ext _ _; repeat (first | with_reducible (refine Hid.out ?_; assumption) | with_reducible exact Ext.refl _ | with_reducible refine Ext.ext ?_ _ | with_reducible refine Ext.alloc ?_ _ | with_reducible refine Ext.drew ?_ | with_reducible refine Ext.setCell ?_ (by (try dsimp only); first | omega | (simp; done) | (simp; omega)) _))).cell m8⟩) (fun hHeld => ?_)
            clear hOld hK K
            (try simp only [Act.put, List.setIfInBounds_toArray, List.set_cons_zero, List.set_cons_succ])
            refine take_met 21 (oi := ⟨_, _, _, _, _, _⟩) (v := ?_) (by kernel_rfl) rfl (by rfl) (fun _ _ _ h => h) (by assumption) ?_ ?_
            rotate_left 1
            · intro w hSw
              try dsimp only at hSw
              go_simp
              try with_reducible rfl
            (try simp only [Act.put, List.setIfInBounds_toArray, List.set_cons_zero, List.set_cons_succ])
            refine wpAnyH_done (by kernel_rfl) ?_ _
            go_wp2_with fail
            go_meet
            exact ⟨_, rfl, rfl, by (show Blk _ _ _; repeat (first | with_reducible (refine Hid.out ?_; assumption) | with_reducible apply Blk.drew | with_reducible apply Blk.ext | ((with_reducible refine Blk.new _ _ rfl ?_); first | with_reducible rfl | focus (simp; done)) | ((with_reducible apply Blk.newE); first | with_reducible rfl | focus (simp; done)) | with_reducible apply Blk.alloc | with_reducible assumption | with_reducible apply Blk.setE | ((with_reducible refine Blk.other' ?_ ?_); first | omega | (simp; omega)) | (show List.set _ _ _ = _; exact rfl) | focus (show _ < List.length _; simp; done))), by (show Ext _ _; repeat (first | with_reducible (refine Hid.out ?_; assumption) | with_reducible exact Ext.refl _ | with_reducible refine Ext.ext ?_ _ | with_reducible refine Ext.alloc ?_ _ | with_reducible refine Ext.drew ?_ | with_reducible refine Ext.setCell ?_ (by (try dsimp only); first | omega | (simp; done) | (simp; omega)) _)), by omega⟩
          refine AllReadyH.cons (o := ⟨_, _, _, _, _, _⟩) rfl (fun K hK => ?_) AllReadyH.nil
          go_simp
          have hOld := hHeld
          clear hHeld
          refine hK.out _ _ (by exact ⟨(show Ext wr _ by (show Ext _ _; repeat (first | with_reducible (refine Hid.out ?_; assumption) | with_reducible exact Ext.refl _ | with_reducible refine Ext.ext ?_ _ | with_reducible refine Ext.alloc ?_ _ | with_reducible refine Ext.drew ?_ | with_reducible refine Ext.setCell ?_ (by (try dsimp only); first | omega | (simp; done) | (simp; omega)) _))).cell m0, (show Ext wr _ by (show Ext _ _; repeat (first | with_reducible (refine Hid.out ?_; assumption) | with_reducible exact Ext.refl _ | with_reducible refine Ext.ext ?_ _ | with_reducible refine Ext.alloc ?_ _ | with_reducible refine Ext.drew ?_ | with_reducible refine Ext.setCell ?_ (by (try dsimp only); first | omega | (simp; done) | (simp; omega)) _))).cell m1, (show Ext wr _ by (show Ext _ _; repeat (first | with_reducible (refine Hid.out ?_; assumption) | with_reducible exact Ext.refl _ | with_reducible refine Ext.ext ?_ _ | with_reducible refine Ext.alloc ?_ _ | with_reducible refine Ext.drew ?_ | with_reducible refine Ext.setCell ?_ (by (try dsimp only); first | omega | (simp; done) | (simp; omega)) _))).cell m2, (show Ext wr _ by (show Ext _ _; repeat (first | with_reducible (refine Hid.out ?_; assumption) | with_reducible exact Ext.refl _ | with_reducible refine Ext.ext ?_ _ | with_reducible refine Ext.alloc ?_ _ | with_reducible refine Ext.drew ?_ | with_reducible refine Ext.setCell ?_ (by (try dsimp only); first | omega | (simp; done) | (simp; omega)) _))).cell m3, (show Ext wr _ by (show Ext _ _; repeat (first | with_reducible (refine Hid.out ?_; assumption) | with_reducible exact Ext.refl _ | with_reducible refine Ext.ext ?_ _ | with_reducible refine Ext.alloc ?_ _ | with_reducible refine Ext.drew ?_ | with_reducible refine Ext.setCell ?_ (by (try dsimp only); first | omega | (simp; done) | (simp; omega)) _))).cell m4, (show Ext wr _ by (show Ext _ _; repeat (first | with_reducible (refine Hid.out ?_; assumption) | with_reducible exact Ext.refl _ | with_reducible refine Ext.ext ?_ _ | with_reducible refine Ext.alloc ?_ _ | with_reducible refine Ext.drew ?_ | with_reducible refine Ext.setCell ?_ (by (try dsimp only); first | omega | (simp; done) | (simp; omega)) _))).cell m5, (show Ext wr _ by (show Ext _ _; repeat (first | with_reducible (refine Hid.out ?_; assumption) | with_reducible exact Ext.refl _ | with_reducible refine Ext.ext ?_ _ | with_reducible refine Ext.alloc ?_ _ | with_reducible refine Ext.drew ?_ | with_reducible refine Ext.setCell ?_ (by (try dsimp only); first | omega | (simp; done) | (simp; omega)) _))).cell m6, (show Ext wr _ by (show Ext _ _; repeat (first | with_reducible (refine Hid.out ?_; assumption) | with_reducible exact Ext.refl _ | with_reducible refine Ext.ext ?_ _ | with_reducible refine Ext.alloc ?_ _ | with_reducible refine Ext.drew ?_ | with_reducible refine Ext.setCell ?_ (by (try dsimp only); first | omega | (simp; done) | (simp; omega)) _))).cell m7, (show Ext wr _ by (show Ext _ _; repeat (first | with_reducible (refine Hid.out ?_; assumption) | with_reducible exact Ext.refl _ | with_reducible refine Ext.ext ?_ _ | with_reducible refine Ext.alloc ?_ _ | with_reducible refine Ext.drew ?_ | with_reducible refine Ext.setCell ?_ (by (try dsimp only); first | omega | (simp; done) | (simp; omega)) _))).cell m8⟩) (fun hHeld => ?_)
          clear hOld hK K
          (try simp only [Act.put, List.setIfInBounds_toArray, List.set_cons_zero, List.set_cons_succ])
          refine take_only 15 (oi := ⟨_, _, _, _, _, _⟩) (by kernel_rfl) rfl (fun K hK => ?_)
          go_simp
          first
            | (go_at_call 66; refine (runpack_any x1 x2 x3 y1 y2 y3 z1 z2 z3 hx20 _).mono ?_; rintro e w' ⟨rfl, r4, rfl⟩; rw [HUB.out]; simp only [if_true])
          have hOld := hHeld
          clear hHeld
          refine hK.out _ _ (by exact ⟨(show Ext wr _ by (show Ext _ _; repeat (first | with_reducible (refine Hid.out ?_; assumption) | with_reducible exact Ext.refl _ | with_reducible refine Ext.ext ?_ _ | with_reducible refine Ext.alloc ?_ _ | with_reducible refine Ext.drew ?_ | with_reducible refine Ext.setCell ?_ (by (try dsimp only); first | omega | (simp; done) | (simp; omega)) _))).cell m0, (show Ext wr _ by (show Ext _ _; repeat (first | with_reducible (refine Hid.out ?_; assumption) | with_reducible exact Ext.refl _ | with_reducible refine Ext.ext ?_ _ | with_reducible refine Ext.alloc ?_ _ | with_reducible refine Ext.drew ?_ | with_reducible refine Ext.setCell ?_ (by (try dsimp only); first | omega | (simp; done) | (simp; omega)) _))).cell m1, (show Ext wr _ by (show Ext _ _; repeat (first | with_reducible (refine Hid.out ?_; assumption) | with_reducible exact Ext.refl _ | with_reducible refine Ext.ext ?_ _ | with_reducible refine Ext.alloc ?_ _ | with_reducible refine Ext.drew ?_ | with_reducible refine Ext.setCell ?_ (by (try dsimp only); first | omega | (simp; done) | (simp; omega)) _))).cell m2, (show Ext wr _ by (show Ext _ _; repeat (first | with_reducible (refine Hid.out ?_; assumption) | with_reducible exact Ext.refl _ | with_reducible refine Ext.ext ?_ _ | with_reducible refine Ext.alloc ?_ _ | with_reducible refine Ext.drew ?_ | with_reducible refine Ext.setCell ?_ (by (try dsimp only); first | omega | (simp; done) | (simp; omega)) _))).cell m3, (show Ext wr _ by (show Ext _ _; repeat (first | with_reducible (refine Hid.out ?_; assumption) | with_reducible exact Ext.refl _ | with_reducible refine Ext.ext ?_ _ | with_reducible refine Ext.alloc ?_ _ | with_reducible refine Ext.drew ?_ | with_reducible refine Ext.setCell ?_ (by (try dsimp only); first | omega | (simp; done) | (simp; omega)) _))).cell m4, (show Ext wr _ by (show Ext _ _; repeat (first | with_reducible (refine Hid.out ?_; assumption) | with_reducible exact Ext.refl _ | with_reducible refine Ext.ext ?_ _ | with_reducible refine Ext.alloc ?_ _ | with_reducible refine Ext.drew ?_ | with_reducible refine Ext.setCell ?_ (by (try dsimp only); first | omega | (simp; done) | (simp; omega)) _))).cell m5, (show Ext wr _ by (show Ext _ _; repeat (first | with_reducible (refine Hid.out ?_; assumption) | with_reducible exact Ext.refl _ | with_reducible refine Ext.ext ?_ _ | with_reducible refine Ext.alloc ?_ _ | with_reducible refine Ext.drew ?_ | with_reducible refine Ext.setCell ?_ (by (try dsimp only); first | omega | (simp; done) | (simp; omega)) _))).cell m6, (show Ext wr _ by (show Ext _ _; repeat (first | with_reducible (refine Hid.out ?_; assumption) | with_reducible exact Ext.refl _ | with_reducible refine Ext.ext ?_ _ | with_reducible refine Ext.alloc ?_ _ | with_reducible refine Ext.drew ?_ | with_reducible refine Ext.setCell ?_ (by (try dsimp only); first | omega | (simp; done) | (simp; omega)) _))).cell m7, (show Ext wr _ by (show Ext _ _; repeat (first | with_reducible (refine Hid.out ?_; assumption) | with_reducible exact Ext.refl _ | with_reducible refine Ext.ext ?_ _ | with_reducible refine Ext.alloc ?_ _ | with_reducible refine Ext.drew ?_ | with_reducible refine Ext.setCell ?_ (by (try dsimp only); first | omega | (simp; done) | (simp; omega)) _))).cell m8⟩) (fun hHeld => ?_)
          clear hOld hK K
          (try simp only [Act.put, List.setIfInBounds_toArray, List.set_cons_zero, List.set_cons_succ])
          refine take_met 16 (oi := ⟨_, _, _, _, _, _⟩) (v := ?_) (by kernel_rfl) rfl (by rfl) (fun _ _ _ h => h) (by assumption) ?_ ?_
          rotate_left 1
          · intro w hSw
            try dsimp only at hSw
            go_simp
            try with_reducible rfl
          (try simp only [Act.put, List.setIfInBounds_toArray, List.set_cons_zero, List.set_cons_succ])
          refine take_met 17 (oi := ⟨_, _, _, _, _, _⟩) (v := ?_) (by kernel_rfl) rfl (by rfl) (fun _ _ _ h => h) (by assumption) ?_ ?_
          rotate_left 1
          · intro w hSw
            try dsimp only at hSw
            go_simp
            try with_reducible rfl
          (try simp only [Act.put, List.setIfInBounds_toArray, List.set_cons_zero, List.set_cons_succ])
          refine take_met 18 (oi := ⟨_, _, _, _, _, _⟩) (v := ?_) (by kernel_rfl) rfl (by rfl) (fun _ _ _ h => h) (by assumption) ?_ ?_
          rotate_left 1
          · intro w hSw
            try dsimp only at hSw
            go_simp
            try with_reducible rfl
          (try simp only [Act.put, List.setIfInBounds_toArray, List.set_cons_zero, List.set_cons_succ])
          refine take_only 20 (oi := ⟨_, _, _, _, _, _⟩) (by kernel_rfl) rfl (fun K hK => ?_)
          go_simp
          have hOld := hHeld
          clear hHeld
          refine hK.out _ _ (by exact ⟨(show Ext wr _ by (show Ext _ _; repeat (first | with_reducible (refine Hid.out ?_; assumption) | with_reducible exact Ext.refl _ | with_reducible refine Ext.ext ?_ _ | with_reducible refine Ext.alloc ?_ _ | with_reducible refine Ext.drew ?_ | with_reducible refine Ext.setCell ?_ (by (try dsimp only); first | omega | (simp; done) | (simp; omega)) _))).cell m0, (show Ext wr _ by (show Ext _ _; repeat (first | with_reducible (refine Hid.out ?_; assumption) | with_reducible exact Ext.refl _ | with_reducible refine Ext.ext ?_ _ | with_reducible refine Ext.alloc ?_ _ | with_reducible refine Ext.drew ?_ | with_reducible refine Ext.setCell ?_ (by (try dsimp only); first | omega | (simp; done) | (simp; omega)) _))).cell m1, (show Ext wr _ by (show Ext _ _; repeat (first | with_reducible (refine Hid.out ?_; assumption) | with_reducible exact Ext.refl _ | with_reducible refine Ext.ext ?_ _ | with_reducible refine Ext.alloc ?_ _ | with_reducible refine Ext.drew ?_ | with_reducible refine Ext.setCell ?_ (by (try dsimp only); first | omega | (simp; done) | (simp; omega)) _))).cell m2, (show Ext wr _ by (show Ext _ _; repeat (first | with_reducible (refine Hid.out ?_; assumption) | with_reducible exact Ext.refl _ | with_reducible refine Ext.ext ?_ _ | with_reducible refine Ext.alloc ?_ _ | with_reducible refine Ext.drew ?_ | with_reducible refine Ext.setCell ?_ (by (try dsimp only); first | omega | (simp; done) | (simp; omega)) _))).cell m3, (show Ext wr _ by (show Ext _ _; repeat (first | with_reducible (refine Hid.out ?_; assumption) | with_reducible exact Ext.refl _ | with_reducible refine Ext.ext ?_ _ | with_reducible refine Ext.alloc ?_ _ | with_reducible refine Ext.drew ?_ | with_reducible refine Ext.setCell ?_ (by (try dsimp only); first | omega | (simp; done) | (simp; omega)) _))).cell m4, (show Ext wr _ by (show Ext _ _; repeat (first | with_reducible (refine Hid.out ?_; assumption) | with_reducible exact Ext.refl _ | with_reducible refine Ext.ext ?_ _ | with_reducible refine Ext.alloc ?_ _ | with_reducible refine Ext.drew ?_ | with_reducible refine Ext.setCell ?_ (by (try dsimp only); first | omega | (simp; done) | (simp; omega)) _))).cell m5, (show Ext wr _ by (show Ext _ _; repeat (first | with_reducible (refine Hid.out ?_; assumption) | with_reducible exact Ext.refl _ | with_reducible refine Ext.ext ?_ _ | with_reducible refine Ext.alloc ?_ _ | with_reducible refine Ext.drew ?_ | with_reducible refine Ext.setCell ?_ (by (try dsimp only); first | omega | (simp; done) | (simp; omega)) _))).cell m6, (show Ext wr _ by (show Ext _ _; repeat (first | with_reducible (refine Hid.out ?_; assumption) | with_reducible exact Ext.refl _ | with_reducible refine Ext.ext ?_ _ | with_reducible refine Ext.alloc ?_ _ | with_reducible refine Ext.drew ?_ | with_reducible refine Ext.setCell ?_ (by (try dsimp only); first | omega | (simp; done) | (simp; omega)) _))).cell m7, (show Ext wr _ by (show Ext _ _; repeat (first | with_reducible (refine Hid.out ?_; assumption) | with_reducible exact Ext.refl _ | with_reducible refine Ext.ext ?_ _ | with_reducible refine Ext.alloc ?_ _ | with_reducible refine Ext.drew ?_ | with_reducible refine Ext.setCell ?_ (by (try dsimp only); first | omega | (simp; done) | (simp; omega)) _))).cell m8⟩) (fun hHeld => ?_)
          clear hOld hK K
          (try simp only [Act.put, List.setIfInBounds_toArray, List.set_cons_zero, List.set_cons_succ])
          refine take_met 21 (oi := ⟨_, _, _, _, _, _⟩) (v := ?_) (by kernel_rfl) rfl (by rfl) (fun _ _ _ h => h) (by assumption) ?_ ?_
          rotate_left 1
          · intro w hSw
            try dsimp only at hSw
            go_simp
            try with_reducible rfl
          (try simp only [Act.put, List.setIfInBounds_toArray, List.set_cons_zero, List.set_cons_succ])
          refine wpAnyH_done (by kernel_rfl) ?_ _
          go_wp2_with fail
          go_meet
          exact ⟨_, rfl, rfl, by (show Blk _ _ _; repeat (first | with_reducible (refine Hid.out ?_; assumption) | with_reducible apply Blk.drew | with_reducible apply Blk.ext | ((with_reducible refine Blk.new _ _ rfl ?_); first | with_reducible rfl | focus (simp; done)) | ((with_reducible apply Blk.newE); first | with_reducible rfl | focus (simp; done)) | with_reducible apply Blk.alloc | with_reducible assumption | with_reducible apply Blk.setE | ((with_reducible refine Blk.other' ?_ ?_); first | omega | (simp; omega)) | (show List.set _ _ _ = _; exact rfl) | focus (show _ < List.length _; simp; done))), by (show Ext _ _; repeat (first | with_reducible (refine Hid.out ?_; assumption) | with_reducible exact Ext.refl _ | with_reducible refine Ext.ext ?_ _ | with_reducible refine Ext.alloc ?_ _ | with_reducible refine Ext.drew ?_ | with_reducible refine Ext.setCell ?_ (by (try dsimp only); first | omega | (simp; done) | (simp; omega)) _)), by omega⟩
        case rest =>
          obtain ⟨g, rfl, rfl, hbg, hxw, hlg⟩ := hcut
          have HG := hid hbg
          have HX2 := hid hxw
          have HXX := hid (HX.out.trans hxw)
          clear hbg hxw m0 m1 m2 m3 m4 m5 m6 m7 m8 b0 b1 b2 b3 b4 b5 b6 b7 b8 b9
          obtain ⟨e0, e1, e2, e3, e4, e5⟩ := HG.out.six
          have e6 := HG.out.1
          have f3 := (HBD.out.of HX2.out).2.2 3 _ rfl
          have f4 := (HBD.out.of HX2.out).2.1 3
          have f5 := (HBD.out.of HX2.out).1
          have hcx : V.heap.size ≤ wc.heap.size := Nat.le_trans hcr HX2.out.size
          have HOx := hid (HO.out.of_ext HX2.out)
          go_wp2_with (at_builtin; refine es_append_b rfl _ _ rfl w (HXX.out.trans (by (show Ext _ _; repeat (first | with_reducible (refine Hid.out ?_; assumption) | with_reducible exact Ext.refl _ | with_reducible refine Ext.ext ?_ _ | with_reducible refine Ext.alloc ?_ _ | refine Ext.drew ?_ | refine Ext.drewN ?_ _ | exact Ext.refl _)))) (by omega) (by (first | exact Nat.le_refl _ | (simp; done) | (simp; omega))) rfl (Own.alloc HOx.out _) _ 1 1 rfl [⟨x1, y1, y2, y3, z1, x2 == 1⟩] rfl (news_new rfl _ (by (first | rfl | (simp; done)))) HLn.out ?_; rintro v9 w9 hv9 hX9 hB9; obtain ⟨a9, c9, rfl⟩ := Own.shape hv9; have HB9 := hid hB9; have HX9 := hid hX9; simp only [List.length_append, List.length_cons, List.length_nil, Nat.zero_add] at hv9; have HV9 := hid hv9; have HD9 := hid (Blk.below ((HBD.out.of HX2.out).alloc _) (by omega) hB9); clear hB9 hX9 hv9; have q0 := HD9.out.2.2 3 _ rfl; have q1 := HD9.out.2.1 3)
          go_roundw
          case rel => exact ⟨j + 1, by omega, by go_num, _, _, HUn2, hid ((Blk.below ((HB3.out.of HX2.out).alloc _) (by omega) HB9.out).other (by omega) _), hid ((Blk.below ((HB6.out.of HX2.out).alloc _) (by omega) HB9.out).other (by omega) _), hid (HD9.out.set 3 (by simp) _), hid (HV9.out.under (by omega) _), hid (by (show Ext _ _; repeat (first | with_reducible (refine Hid.out ?_; assumption) | with_reducible exact Ext.refl _ | with_reducible refine Ext.ext ?_ _ | with_reducible refine Ext.alloc ?_ _ | with_reducible refine Ext.drew ?_ | with_reducible refine Ext.setCell ?_ (by (try dsimp only); first | omega | (simp; done) | (simp; omega)) _))), by rw [World.size_setCell]; exact Nat.le_trans hcx (Nat.le_trans (by (first | exact Nat.le_refl _ | (simp; done) | (simp; omega))) HB9.out.size)⟩
          case measure => simp [intOf]; omega
    · obtain rfl : k = j := by omega
      have hkk : decide ((k : Int) < (k : Int)) = false := by simp
      have hln := unpackTo_len HU.out
      have HLn := hid (show es.length ≤ 100 by omega)
      have HL2 := hid hln
      clear hln
      obtain ⟨av, cv, rfl⟩ := Own.shape HO.out
      obtain ⟨d0, d1, d2, d3⟩ := HBD.out.four
      have HRe := hid (show O = if sameTo l (wordsW s2 t es) p (2 + 3 * k) = true ∧ fitsB T B sl rm ws who s2 t es = true then some (s2, t, es) else none by rw [HRd.out, HU.out])
      clear HRd
      have hwl := hid (show (wordsW s2 t es).length = 2 + 3 * k by unfold wordsW; rw [List.length_append, bodyW_len, HL2.out]; rfl)
      go_wp2_with fail
      refine (rfw_any who s2 t (by omega) (by omega) es _ HLn.out _ ((Sl.of_own enE_len HO.out).of enE_len (by (show Ext _ _; repeat (first | with_reducible (refine Hid.out ?_; assumption) | with_reducible exact Ext.refl _ | with_reducible refine Ext.ext ?_ _ | with_reducible refine Ext.alloc ?_ _ | refine Ext.drew ?_ | refine Ext.drewN ?_ _ | exact Ext.refl _))))).mono ?_
      rintro e w' ⟨v5, rfl, ⟨r5, rfl⟩, hv5⟩
      obtain ⟨g5, c5, rfl, hg5, hg6⟩ := Ws.open hv5 (by rw [hwl.out]; omega)
      rw [hwl.out] at hv5 ⊢
      have HX5 := hid (Sl.of_own wdE_len hv5)
      clear hv5
      generalize hW2 : ext _ r5 = W2
      have HE2 := hid (show Ext wr W2 by rw [← hW2]; (show Ext _ _; repeat (first | with_reducible (refine Hid.out ?_; assumption) | with_reducible exact Ext.refl _ | with_reducible refine Ext.ext ?_ _ | with_reducible refine Ext.alloc ?_ _ | refine Ext.drew ?_ | refine Ext.drewN ?_ _ | exact Ext.refl _)))
      have HX6 := hid (show Sl W2 3 wdE (.slice (some ⟨g5, 0, none⟩) (2 + 3 * k) c5) (wordsW s2 t es) by rw [← hW2]; exact HX5.out)
      clear hW2 HX5
      have HB3b := hid (HB3.out.of HE2.out)
      have HB6b := hid (HB6.out.of HE2.out)
      have HBDb := hid (HBD.out.of HE2.out)
      have HOb := hid (HO.out.of_ext HE2.out)
      have HXb := hid (HX.out.trans HE2.out)
      have hcb := Nat.le_trans hcr HE2.out.size
      clear d0 d1 d2 d3 HB3 HB6 HBD HO n1 n2 hcr
      go_wp2_with fail
      obtain ⟨m, hm9⟩ : ∃ m, m = 2 + 3 * k := ⟨_, rfl⟩
      rw [← hm9] at HX6 HRe hwl ⊢
      have hmp : p + m ≤ l.length := by omega
      have HM := hid hm9
      have hm100 : m ≤ 100 := by omega
      clear hm9
      go_loopw [17] (fun i wr2 => ∃ i2 : Nat, i2 ≤ m ∧ i = .int .i64 i2 ∧ Hid (sameTo l (wordsW s2 t es) p i2 = true) ∧ Hid (Ext W2 wr2)) (fun i _ => m - (intOf i).toNat)
      case atStart => exact ⟨0, by omega, rfl, hid rfl, hid (by (show Ext _ _; repeat (first | with_reducible (refine Hid.out ?_; assumption) | with_reducible exact Ext.refl _ | with_reducible refine Ext.ext ?_ _ | with_reducible refine Ext.alloc ?_ _ | refine Ext.drew ?_ | refine Ext.drewN ?_ _ | exact Ext.refl _)))⟩
      case round =>
        obtain ⟨i, hi, rfl, HSm, HX3⟩ := hrel
        have HXc := hid (HXb.out.trans HX3.out)
        by_cases him : i < m
        · have hd : decide (i < m) = true := decide_eq_true him
          obtain ⟨x, hx⟩ : ∃ x, l[p + i]? = some x := ⟨_, List.getElem?_eq_getElem (by omega)⟩
          obtain ⟨y, hy⟩ : ∃ y, (wordsW s2 t es)[i]? = some y := ⟨_, List.getElem?_eq_getElem (by rw [hwl.out]; omega)⟩
          have HA := hid (sameTo_at hx hy)
          obtain ⟨_, b', o', hab, hbl', hc1⟩ := Sl.at (HV.out.of wdE_len HXc.out) hx
          cases hab
          obtain ⟨geq, b5, o5, hab, hbl5, hc2⟩ := Sl.at (HX6.out.of wdE_len HX3.out) hy
          cases hab
          clear geq
          obtain ⟨x1, x2, x3⟩ := x
          obtain ⟨y1, y2, y3⟩ := y
          have m0 := hc1 0 (by omega)
          have m1 := hc1 1 (by omega)
          have m2 := hc1 2 (by omega)
          have m3 := hc2 0 (by omega)
          have m4 := hc2 1 (by omega)
          have m5 := hc2 2 (by omega)
          simp [wdE] at m0 m1 m2 m3 m4 m5
          have hn1 := neq_word x1 x2 x3 y1 y2 y3
          have hga := eq_guard_word
          have b0 : (0 : Int) ≤ (p : Int) + (i : Int) := by omega
          have b1 : (p : Int) + (i : Int) < (l.length : Int) := by omega
          have b2 : ((p : Int) + (i : Int)).toNat = p + i := by omega
          have b3 : IntKind.i64.wrap ((p : Int) + (i : Int)) = (p : Int) + (i : Int) := IntWalk.i64_in _ (by omega)
          have b4 : (i : Int) < (m : Int) := by omega
          clear hc1 hc2 hx hy
          cases hb : wdB (x1, x2, x3) (y1, y2, y3)
          · have HF := hid (show O = none by
              rw [HRe.out, if_neg]
              rintro ⟨h, _⟩
              have h2 : sameTo l (wordsW s2 t es) p (i + 1) = false := by rw [HA.out, hb]; simp
              have h3 := sameTo_no h2 (m - (i + 1))
              rw [show i + 1 + (m - (i + 1)) = m by omega] at h3
              rw [h3] at h; cases h)
            rw [hb] at hn1
            obtain ⟨d0, d1, d2, d3⟩ := (HB6b.out.of HX3.out).four
            have d4 := (HB6b.out.of HX3.out).2.1 0
            have d5 := (HB6b.out.of HX3.out).2.1 1
            have d6 := (HB6b.out.of HX3.out).2.1 2
            have d7 := (HB6b.out.of HX3.out).2.1 3
            have d8 := (HB6b.out.of HX3.out).1
            clear hb HA HSm
            go_wp2_with fail
            refine region_ext (by kernel_rfl) (by kernel_rfl) ?_
            repeat (go_big_quiet_step (fail))
            refine wpQuiet_nil ?_
            rintro _ ⟨r6, rfl⟩
            (repeat (first | go_values | go_skip | go_guarded | go_step | go_upon | (simp only [Int.not_lt, Int.not_le] at *; go_simp) | (go_ite <;> go_prune <;> (try go_simp))))
            exact bodyPost_ret (v := .tuple #[.agg #[.int .i64 0, .int .i64 0, .int .i64 0, .slice none 0 0], .bool false]) (by simp [results, Tryd.results55, go_sem, d0, d1, d2, d3, d8]) rfl (RRP.no HF.out (by (show Ext _ _; repeat (first | with_reducible (refine Hid.out ?_; assumption) | with_reducible exact Ext.refl _ | with_reducible refine Ext.ext ?_ _ | with_reducible refine Ext.alloc ?_ _ | with_reducible refine Ext.drew ?_ | with_reducible refine Ext.setCell ?_ (by (try dsimp only); first | omega | (simp; done) | (simp; omega)) _))))
          · have HS2 := hid (show sameTo l (wordsW s2 t es) p (i + 1) = true by rw [HA.out, HSm.out, hb]; rfl)
            rw [hb] at hn1
            clear hb HA HSm
            go_wp2_with fail
            refine region_ext (by kernel_rfl) (by kernel_rfl) ?_
            repeat (go_big_quiet_step (fail))
            refine wpQuiet_nil ?_
            rintro _ ⟨r6, rfl⟩
            go_wp2_with fail
            go_roundw
            case rel => exact ⟨i + 1, by omega, by go_num, HS2, hid (HX3.out.trans (by (show Ext _ _; repeat (first | with_reducible (refine Hid.out ?_; assumption) | with_reducible exact Ext.refl _ | with_reducible refine Ext.ext ?_ _ | with_reducible refine Ext.alloc ?_ _ | refine Ext.drew ?_ | refine Ext.drewN ?_ _ | exact Ext.refl _))))⟩
            case measure => simp [intOf]; omega
        · have hd : decide (i < m) = false := decide_eq_false him
          obtain rfl : i = m := by omega
          have HO3 := hid (HOb.out.of_ext HX3.out)
          have HB3c := hid (HB3b.out.of HX3.out)
          have HB6c := hid (HB6b.out.of HX3.out)
          have HBDc := hid (HBDb.out.of HX3.out)
          obtain ⟨d0, d1, d2, d3⟩ := HB6c.out.four
          have d4 := HB6c.out.2.1 0
          have d5 := HB6c.out.2.1 1
          have d6 := HB6c.out.2.1 2
          have d7 := HB6c.out.2.1 3
          have d8 := HB6c.out.1
          obtain ⟨fb, hfb⟩ : ∃ fb, fb = fitsB T B sl rm ws who s2 t es := ⟨_, rfl⟩
          have HFb := hid (show O = if fb = true then some (s2, t, es) else none by rw [HRe.out, hfb]; simp [HSm.out])
          have HFf := hid hfb
          clear HRe hfb HSm
          go_wp2_with fail
          refine wp_region_held_drew (S := fun w' => Ext w w' ∧ (w'.cell? ⟨w.heap.size, 0, none⟩ = some (.int .i64 T) ∧ w'.cell? ⟨w.heap.size, 1, none⟩ = some (.int .i64 B) ∧ w'.cell? ⟨w.heap.size, 2, none⟩ = some (.int .i64 sl) ∧ w'.cell? ⟨w.heap.size, 3, none⟩ = some (.int .i64 rm) ∧ w'.cell? ⟨w.heap.size, 4, none⟩ = some (.int .i64 104) ∧ w'.cell? ⟨w.heap.size, 5, none⟩ = some (.int .i64 32) ∧ w'.cell? ⟨w.heap.size, 6, none⟩ = some (.slice pa ws.length pc) ∧ w'.cell? ⟨w.heap.size, 7, none⟩ = some (.int .i64 sz)) ∧ (w'.cell? ⟨DD, 0, none⟩ = some (.int .i64 who) ∧ w'.cell? ⟨DD, 1, none⟩ = some (.int .i64 s2) ∧ w'.cell? ⟨DD, 2, none⟩ = some (.int .i64 t) ∧ w'.cell? ⟨DD, 3, none⟩ = some (.slice av es.length cv))) (by kernel_rfl) (by exact ⟨by (show Ext _ _; repeat (first | with_reducible (refine Hid.out ?_; assumption) | with_reducible exact Ext.refl _ | with_reducible refine Ext.ext ?_ _ | with_reducible refine Ext.alloc ?_ _ | with_reducible refine Ext.drew ?_ | with_reducible refine Ext.setCell ?_ (by (try dsimp only); first | omega | (simp; done) | (simp; omega)) _)), Blk.eight (by (show Blk _ _ _; repeat (first | with_reducible (refine Hid.out ?_; assumption) | with_reducible apply Blk.drew | with_reducible apply Blk.ext | ((with_reducible refine Blk.new _ _ rfl ?_); first | with_reducible rfl | focus (simp; done)) | ((with_reducible apply Blk.newE); first | with_reducible rfl | focus (simp; done)) | with_reducible apply Blk.alloc | with_reducible assumption | with_reducible apply Blk.setE | ((with_reducible refine Blk.other' ?_ ?_); first | omega | (simp; omega)) | (show List.set _ _ _ = _; exact rfl) | focus (show _ < List.length _; simp; done)))), Blk.four (by (show Blk _ _ _; repeat (first | with_reducible (refine Hid.out ?_; assumption) | with_reducible apply Blk.drew | with_reducible apply Blk.ext | ((with_reducible refine Blk.new _ _ rfl ?_); first | with_reducible rfl | focus (simp; done)) | ((with_reducible apply Blk.newE); first | with_reducible rfl | focus (simp; done)) | with_reducible apply Blk.alloc | with_reducible assumption | with_reducible apply Blk.setE | ((with_reducible refine Blk.other' ?_ ?_); first | omega | (simp; omega)) | (show List.set _ _ _ = _; exact rfl) | focus (show _ < List.length _; simp; done))))⟩) (fun hHeld => ?_)
          refine take_met 0 (oi := ⟨_, _, _, _, _, _⟩) (v := ?_) (by kernel_rfl) rfl (by rfl) (fun _ _ _ h => h) (by assumption) ?_ ?_
          rotate_left 1
          · intro w hSw
            try dsimp only at hSw
            go_simp
            try with_reducible rfl
          (try simp only [Act.put, List.setIfInBounds_toArray, List.set_cons_zero, List.set_cons_succ])
          refine take_met 1 (oi := ⟨_, _, _, _, _, _⟩) (v := ?_) (by kernel_rfl) rfl (by rfl) (fun _ _ _ h => h) (by assumption) ?_ ?_
          rotate_left 1
          · intro w hSw
            try dsimp only at hSw
            go_simp
            try with_reducible rfl
          (try simp only [Act.put, List.setIfInBounds_toArray, List.set_cons_zero, List.set_cons_succ])
          refine take_met 2 (oi := ⟨_, _, _, _, _, _⟩) (v := ?_) (by kernel_rfl) rfl (by rfl) (fun _ _ _ h => h) (by assumption) ?_ ?_
          rotate_left 1
          · intro w hSw
            try dsimp only at hSw
            go_simp
            try with_reducible rfl
          (try simp only [Act.put, List.setIfInBounds_toArray, List.set_cons_zero, List.set_cons_succ])
          refine take_only 3 (oi := ⟨_, _, _, _, _, _⟩) (by kernel_rfl) rfl (fun K hK => ?_)
          go_simp
          first
            | (go_at_call 68; refine (rfits_any T B sl rm sz HT.out HB.out HSl.out HRm.out ws _ who s2 t es _ (by have := HLn.out; omega) _ (HPv.out.of boE_len (by (show Ext _ _; repeat (first | with_reducible (refine Hid.out ?_; assumption) | with_reducible exact Ext.refl _ | with_reducible refine Ext.ext ?_ _ | with_reducible refine Ext.alloc ?_ _ | with_reducible refine Ext.drew ?_ | with_reducible refine Ext.setCell ?_ (by (try dsimp only); first | omega | (simp; done) | (simp; omega)) _)))) ((Sl.of_own enE_len HO3.out).of enE_len (by (show Ext _ _; repeat (first | with_reducible (refine Hid.out ?_; assumption) | with_reducible exact Ext.refl _ | with_reducible refine Ext.ext ?_ _ | with_reducible refine Ext.alloc ?_ _ | refine Ext.drew ?_ | refine Ext.drewN ?_ _ | exact Ext.refl _))))).mono ?_; rintro e w' ⟨rfl, r7, rfl⟩; rw [← HFf.out])
          have hOld := hHeld
          clear hHeld
          refine hK.out _ _ (by exact ⟨by (show Ext _ _; repeat (first | with_reducible (refine Hid.out ?_; assumption) | with_reducible exact Ext.refl _ | with_reducible refine Ext.ext ?_ _ | with_reducible refine Ext.alloc ?_ _ | with_reducible refine Ext.drew ?_ | with_reducible refine Ext.setCell ?_ (by (try dsimp only); first | omega | (simp; done) | (simp; omega)) _)), Blk.eight (by (show Blk _ _ _; repeat (first | with_reducible (refine Hid.out ?_; assumption) | with_reducible apply Blk.drew | with_reducible apply Blk.ext | ((with_reducible refine Blk.new _ _ rfl ?_); first | with_reducible rfl | focus (simp; done)) | ((with_reducible apply Blk.newE); first | with_reducible rfl | focus (simp; done)) | with_reducible apply Blk.alloc | with_reducible assumption | with_reducible apply Blk.setE | ((with_reducible refine Blk.other' ?_ ?_); first | omega | (simp; omega)) | (show List.set _ _ _ = _; exact rfl) | focus (show _ < List.length _; simp; done)))), Blk.four (by (show Blk _ _ _; repeat (first | with_reducible (refine Hid.out ?_; assumption) | with_reducible apply Blk.drew | with_reducible apply Blk.ext | ((with_reducible refine Blk.new _ _ rfl ?_); first | with_reducible rfl | focus (simp; done)) | ((with_reducible apply Blk.newE); first | with_reducible rfl | focus (simp; done)) | with_reducible apply Blk.alloc | with_reducible assumption | with_reducible apply Blk.setE | ((with_reducible refine Blk.other' ?_ ?_); first | omega | (simp; omega)) | (show List.set _ _ _ = _; exact rfl) | focus (show _ < List.length _; simp; done))))⟩) (fun hHeld => ?_)
          clear hOld hK K
          (try simp only [Act.put, List.setIfInBounds_toArray, List.set_cons_zero, List.set_cons_succ])
          refine take_only 4 (oi := ⟨_, _, _, _, _, _⟩) (by kernel_rfl) rfl (fun K hK => ?_)
          go_simp
          have hOld := hHeld
          clear hHeld
          refine hK.out _ _ (by exact ⟨by (show Ext _ _; repeat (first | with_reducible (refine Hid.out ?_; assumption) | with_reducible exact Ext.refl _ | with_reducible refine Ext.ext ?_ _ | with_reducible refine Ext.alloc ?_ _ | with_reducible refine Ext.drew ?_ | with_reducible refine Ext.setCell ?_ (by (try dsimp only); first | omega | (simp; done) | (simp; omega)) _)), Blk.eight (by (show Blk _ _ _; repeat (first | with_reducible (refine Hid.out ?_; assumption) | with_reducible apply Blk.drew | with_reducible apply Blk.ext | ((with_reducible refine Blk.new _ _ rfl ?_); first | with_reducible rfl | focus (simp; done)) | ((with_reducible apply Blk.newE); first | with_reducible rfl | focus (simp; done)) | with_reducible apply Blk.alloc | with_reducible assumption | with_reducible apply Blk.setE | ((with_reducible refine Blk.other' ?_ ?_); first | omega | (simp; omega)) | (show List.set _ _ _ = _; exact rfl) | focus (show _ < List.length _; simp; done)))), Blk.four (by (show Blk _ _ _; repeat (first | with_reducible (refine Hid.out ?_; assumption) | with_reducible apply Blk.drew | with_reducible apply Blk.ext | ((with_reducible refine Blk.new _ _ rfl ?_); first | with_reducible rfl | focus (simp; done)) | ((with_reducible apply Blk.newE); first | with_reducible rfl | focus (simp; done)) | with_reducible apply Blk.alloc | with_reducible assumption | with_reducible apply Blk.setE | ((with_reducible refine Blk.other' ?_ ?_); first | omega | (simp; omega)) | (show List.set _ _ _ = _; exact rfl) | focus (show _ < List.length _; simp; done))))⟩) (fun hHeld => ?_)
          clear hOld hK K
          (try simp only [Act.put, List.setIfInBounds_toArray, List.set_cons_zero, List.set_cons_succ])
          refine take_met 5 (oi := ⟨_, _, _, _, _, _⟩) (v := ?_) (by kernel_rfl) rfl (by rfl) (fun _ _ _ h => h) (by assumption) ?_ ?_
          rotate_left 1
          · intro w hSw
            try dsimp only at hSw
            go_simp
            try with_reducible rfl
          (try simp only [Act.put, List.setIfInBounds_toArray, List.set_cons_zero, List.set_cons_succ])
          refine wpAnyH_done (by kernel_rfl) ?_ _
          generalize hWe : World.setCell _ _ _ = We
          have hBr : Blk We (w.heap.size + 1) [.int .i64 who, .int .i64 s2, .int .i64 t, .slice av es.length cv] := by rw [← hWe]; exact (((((HB6c.out.drew.ext _).set 0 (by simp) _).set 1 (by simp) _).set 2 (by simp) _).set 3 (by simp) _)
          have hXe : Ext w We := by rw [← hWe]; exact ((((HXc.out.drew.ext _).setCell (Nat.le_succ _) _).setCell (Nat.le_succ _) _).setCell (Nat.le_succ _) _).setCell (Nat.le_succ _) _
          have hOe : Own We V.heap.size 75 6 enE (.slice av es.length cv) es := by rw [← hWe]; exact (((((HO3.out.drew.ext _).under (by omega) _).under (by omega) _).under (by omega) _).under (by omega) _)
          clear hWe
          obtain ⟨z0, z1, z2, z3⟩ := hBr.four
          have z4 := hBr.1
          (repeat (first | go_values | go_skip | go_guarded | go_step | go_upon | (simp only [Int.not_lt, Int.not_le] at *; go_simp) | (go_ite <;> go_prune <;> (try go_simp))))
          cases fb
          · exact bodyPost_ret (v := .tuple #[.agg #[.int .i64 who, .int .i64 s2, .int .i64 t, .slice av es.length cv], .bool false]) (by simp [results, Tryd.results55, go_sem, z0, z1, z2, z3, z4]) rfl (RRP.no (by rw [HFb.out]; rfl) hXe)
          exact bodyPost_ret (v := .tuple #[.agg #[.int .i64 who, .int .i64 s2, .int .i64 t, .slice av es.length cv], .bool true]) (by simp [results, Tryd.results55, go_sem, z0, z1, z2, z3, z4]) rfl (RRP.yes (by rw [HFb.out]; rfl) hXe (Sl.of_own enE_len hOe))


end Go.Proofs.YtfijnpfhffhffaaDoor

namespace Go.Proofs.YtfijnpfhffhffaaDoor
set_option linter.unusedSimpArgs false
set_option linter.unusedVariables false
open Go.RowKit

/-- Plain: what the reference's Logical answers. -/
def rlogW (q : Int → Option (Int × Int × List En)) (x : Wd) (p : Int) : Wd :=
  if x.2.2 = 0 then (x.1, x.2.1, 0) else match q (x.2.2 / 16777216) with
    | none => (x.1, x.2.1, 0)
    | some (seq, st, es) => if seq = x.2.2 % 16777216 ∧ st = 1 then outW x.1 x.2.1 (findW p es) else (x.1, x.2.1, 0)
theorem rlog_law {t c b : Int} {l : List Wd} (ht : t ≤ 8) (hb : b ≤ 64) (x : Wd) (hx : 0 ≤ x.2.2 ∧ x.2.2 ≤ 4294967295) (p : Int) : rlogW (fun who => (readN t c b l who).2) x p = logicW t c b l x p := by
  obtain ⟨x1, x2, x3⟩ := x
  simp only at hx
  unfold rlogW logicW whoN
  dsimp only
  by_cases h0 : x3 = 0
  · subst h0; simp
  rw [if_neg h0]
  by_cases hv : 1 ≤ x3 / 16777216 ∧ x3 / 16777216 ≤ 72 ∧ 1 ≤ x3 % 16777216
  · rw [if_pos hv]
    dsimp only
    rw [if_neg (by omega)]
    rfl
  · rw [if_neg hv]
    dsimp only
    rw [if_pos rfl]
    cases hr : (readN t c b l (x3 / 16777216)).2 with
    | none => rfl
    | some q =>
      obtain ⟨seq, st, es⟩ := q
      obtain ⟨d1, d2, _⟩ := read_some hr
      have hw := place_val (by omega) (by omega) d1
      dsimp only
      rw [if_neg (by omega)]

set_option maxRecDepth 100000 in
set_option maxHeartbeats 2000000 in
theorem rlogical_any (T B sl rm sz : Int) (hT : 0 ≤ T ∧ T ≤ 8) (hB : 0 ≤ B ∧ B ≤ 64) (hsl : 0 ≤ sl ∧ sl ≤ 100000) (hrm : 0 ≤ rm ∧ rm ≤ 100000) (ws : List Bool) (pv : Value) (l : List Wd) (lv : Value) (hok : ∀ a ∈ l, WdOk a)
    (hroom : ∀ who, -9223372036854775808 ≤ who → who ≤ 9223372036854775807 → ¬ (rplaceN T B sl rm who).1 < 0 → (rplaceN T B sl rm who).1 ≤ 30000 ∧ (0 ≤ (rplaceN T B sl rm who).2 ∧ (rplaceN T B sl rm who).2 ≤ 32) ∧ (rplaceN T B sl rm who).1 + 2 + 3 * (rplaceN T B sl rm who).2 ≤ (l.length : Int))
    (n : Nat) (x1 x2 x3 : Int) (hx : l[n]? = some (x1, x2, x3)) (w : World) (hp : Sl w 1 boE pv ws) (hv : Sl w 3 wdE lv l) :
    Calls Tryd.prog 37 #[.agg #[.int .i64 T, .int .i64 B, .int .i64 sl, .int .i64 rm, .int .i64 104, .int .i64 32, pv, .int .i64 sz], lv, .int .i64 n] w
      fun y w' => (∃ r, w' = ext w r) ∧ y = .returned (.agg #[.int .i64 (rlogW (rreadO T B sl rm ws l) (x1, x2, x3) n).1, .int .u32 (rlogW (rreadO T B sl rm ws l) (x1, x2, x3) n).2.1, .int .u32 (rlogW (rreadO T B sl rm ws l) (x1, x2, x3) n).2.2]) := by
  have HV := hid hv
  have HPv := hid hp
  have HOk := hid hok
  have HRoom := hid hroom
  have HT := hid hT
  have HB := hid hB
  have HSl := hid hsl
  have HRm := hid hrm
  have hxk := hok _ (List.mem_of_getElem? hx)
  obtain ⟨a, cp, rfl, ⟨hm, hlc⟩, _⟩ := hv
  obtain ⟨pa, pc, rfl, _, _⟩ := hp
  obtain ⟨g0, bb, oo, hab, hbl, hcs⟩ := Sl.at HV.out hx
  subst hab
  have hnl := (List.getElem?_eq_some_iff.1 hx).1
  have k0 := hcs 0 (by omega)
  have k1 := hcs 1 (by omega)
  have k2 := hcs 2 (by omega)
  simp [wdE] at k0 k1 k2
  obtain ⟨_, ⟨hx0, hx1⟩, ⟨hx2, hx3⟩⟩ := hxk
  dsimp only at hx0 hx1 hx2 hx3
  obtain ⟨who, hwho⟩ : ∃ q, q = x3 / 16777216 := ⟨_, rfl⟩
  obtain ⟨sq, hsq⟩ : ∃ q, q = x3 % 16777216 := ⟨_, rfl⟩
  have ht1 : x3.tdiv 16777216 = who := by rw [Int.tdiv_eq_ediv_of_nonneg hx2]; exact hwho.symm
  have ht2 : x3.tmod 16777216 = sq := by rw [Int.tmod_eq_emod_of_nonneg hx2]; exact hsq.symm
  have hwb0 : 0 ≤ who := by omega
  have hwb1 : who ≤ 255 := by omega
  have hsb0 : 0 ≤ sq := by omega
  have hsb1 : sq ≤ 16777215 := by omega
  have hw1 : IntKind.i64.wrap who = who := IntWalk.i64_in _ (by omega)
  have hw2 : IntKind.i64.wrap sq = sq := IntWalk.i64_in _ (by omega)
  have hnn : (n : Int) < (l.length : Int) := by omega
  obtain ⟨R, hR⟩ : ∃ R, R = rlogW (rreadO T B sl rm ws l) (x1, x2, x3) n := ⟨_, rfl⟩
  rw [← hR]
  have HQ := hid (show R = if x3 = 0 then (x1, x2, 0) else match rreadO T B sl rm ws l who with
    | none => (x1, x2, 0)
    | some (seq, st, es) => if seq = sq ∧ st = 1 then outW x1 x2 (findW n es) else (x1, x2, 0) by
    rw [hR, hwho, hsq]; rfl)
  clear hok hroom hT hB hsl hrm hcs hx g0 hwho hsq hR hm hlc
  go_enter Tryd.func37, Tryd.ntmps37
  go_wp2_with fail
  refine region_ext (by kernel_rfl) (by kernel_rfl) ?_
  repeat (go_big_quiet_step (fail))
  refine wpQuiet_nil ?_
  rintro _ ⟨r1, rfl⟩
  by_cases h0 : x3 = 0
  · have HR := hid (show R = (x1, x2, 0) by rw [HQ.out, if_pos h0])
    have h0b : (x3 == 0) = true := by simpa using h0
    clear h0 HQ
    (repeat (first | go_values | go_skip | go_guarded | go_step | go_upon | (simp only [Int.not_lt, Int.not_le] at *; go_simp) | (go_ite <;> go_prune <;> (try go_simp))))
    refine bodyPost_ret (v := .agg #[.int .i64 x1, .int .u32 x2, .int .u32 0]) (by simp [results, Tryd.results37, go_sem]) rfl ⟨by (show Ext _ _; repeat (first | with_reducible (refine Hid.out ?_; assumption) | with_reducible exact Ext.refl _ | with_reducible refine Ext.ext ?_ _ | with_reducible refine Ext.alloc ?_ _ | with_reducible refine Ext.drew ?_ | with_reducible refine Ext.setCell ?_ (by (try dsimp only); first | omega | (simp; done) | (simp; omega)) _)), by rw [HR.out]⟩
  have h0b : (x3 == 0) = false := by simpa using h0
  have HLw := hid (show R = match rreadO T B sl rm ws l who with
    | none => (x1, x2, 0)
    | some (seq, st, es) => if seq = sq ∧ st = 1 then outW x1 x2 (findW n es) else (x1, x2, 0) by
    rw [HQ.out, if_neg h0])
  clear h0 HQ
  go_wp2_with fail
  refine (rread_any T B sl rm sz HT.out HB.out HSl.out HRm.out ws _ who l _ HOk.out (fun h => HRoom.out who (by omega) (by omega) (by omega)) _ (HPv.out.of boE_len (by (show Ext _ _; repeat (first | with_reducible (refine Hid.out ?_; assumption) | with_reducible exact Ext.refl _ | with_reducible refine Ext.ext ?_ _ | with_reducible refine Ext.alloc ?_ _ | with_reducible refine Ext.drew ?_ | with_reducible refine Ext.setCell ?_ (by (try dsimp only); first | omega | (simp; done) | (simp; omega)) _)))) (HV.out.of wdE_len (by (show Ext _ _; repeat (first | with_reducible (refine Hid.out ?_; assumption) | with_reducible exact Ext.refl _ | with_reducible refine Ext.ext ?_ _ | with_reducible refine Ext.alloc ?_ _ | with_reducible refine Ext.drew ?_ | with_reducible refine Ext.setCell ?_ (by (try dsimp only); first | omega | (simp; done) | (simp; omega)) _))))).mono ?_
  rintro y w' ⟨⟨r5, rfl⟩, a', b', c', s', n', cp', rfl, hq⟩
  cases hrd : rreadO T B sl rm ws l who with
  | none =>
    have HR := hid (show R = (x1, x2, 0) by rw [HLw.out, hrd])
    clear hrd hq HLw
    simp only [Option.isSome_none]
    (repeat (first | go_values | go_skip | go_guarded | go_step | go_upon | (simp only [Int.not_lt, Int.not_le] at *; go_simp) | (go_ite <;> go_prune <;> (try go_simp))))
    refine bodyPost_ret (v := .agg #[.int .i64 x1, .int .u32 x2, .int .u32 0]) (by simp [results, Tryd.results37, go_sem]) rfl ⟨by (show Ext _ _; repeat (first | with_reducible (refine Hid.out ?_; assumption) | with_reducible exact Ext.refl _ | with_reducible refine Ext.ext ?_ _ | with_reducible refine Ext.alloc ?_ _ | with_reducible refine Ext.drew ?_ | with_reducible refine Ext.setCell ?_ (by (try dsimp only); first | omega | (simp; done) | (simp; omega)) _)), by rw [HR.out]⟩
  | some q =>
    obtain ⟨seq, st, es⟩ := q
    obtain ⟨rfl, rfl, rfl, hes⟩ := hq seq st es hrd
    have HLv := hid (show R = if b' = sq ∧ c' = 1 then outW x1 x2 (findW n es) else (x1, x2, 0) by rw [HLw.out, hrd])
    have HEs := hid hes
    obtain ⟨ae, ce, he0, ⟨hme, hlce⟩, _⟩ := hes
    simp only [Value.slice.injEq] at he0
    obtain ⟨rfl, rfl, rfl⟩ := he0
    clear hrd hq HLw
    simp only [Option.isSome_some]
    by_cases hm2 : b' = sq ∧ c' = 1
    rotate_left
    · have HR := hid (show R = (x1, x2, 0) by rw [HLv.out, if_neg hm2])
      have hcs : (b' != sq) = true ∨ ((b' != sq) = false ∧ (c' != 1) = true) := by
        by_cases h5 : b' = sq
        · exact .inr ⟨by simp [h5], by simp; intro h6; exact hm2 ⟨h5, h6⟩⟩
        · exact .inl (by simpa using h5)
      clear hm2
      rcases hcs with h5 | ⟨h5, h6⟩
      all_goals
        (repeat (first | go_values | go_skip | go_guarded | go_step | go_upon | (simp only [Int.not_lt, Int.not_le] at *; go_simp) | (go_ite <;> go_prune <;> (try go_simp))))
        refine bodyPost_ret (v := .agg #[.int .i64 x1, .int .u32 x2, .int .u32 0]) (by simp [results, Tryd.results37, go_sem]) rfl ⟨by (show Ext _ _; repeat (first | with_reducible (refine Hid.out ?_; assumption) | with_reducible exact Ext.refl _ | with_reducible refine Ext.ext ?_ _ | with_reducible refine Ext.alloc ?_ _ | with_reducible refine Ext.drew ?_ | with_reducible refine Ext.setCell ?_ (by (try dsimp only); first | omega | (simp; done) | (simp; omega)) _)), by rw [HR.out]⟩
    · obtain ⟨rfl, rfl⟩ := hm2
      have HFi := hid (show R = outW x1 x2 (findW n (es.drop 0)) by rw [HLv.out, if_pos ⟨rfl, rfl⟩]; rfl)
      clear HLv
      go_wp2_with fail
      generalize hW : World.alloc _ _ = W
      have HB6 := hid (show Blk W (w.heap.size + 1) [.int .i64 0, .int .u32 0, .int .u32 0] by rw [← hW]; (show Blk _ _ _; repeat (first | with_reducible (refine Hid.out ?_; assumption) | with_reducible refine Blk.drew ?_ | with_reducible refine Blk.ext ?_ _ | (with_reducible refine Blk.new _ _ rfl ?_; first | with_reducible rfl | (simp; done)) | with_reducible refine Blk.alloc ?_ _ | with_reducible assumption | with_reducible apply Blk.setE | (with_reducible refine Blk.other' ?_ ?_; first | omega | (simp; omega)) | (show List.set _ _ _ = _; exact rfl) | (show _ < List.length _; simp; done))))
      have HB8 := hid (show Blk W (w.heap.size + 1 + 1) [.int .i64 x1, .int .u32 x2, .int .u32 x3] by rw [← hW]; (show Blk _ _ _; repeat (first | with_reducible (refine Hid.out ?_; assumption) | with_reducible refine Blk.drew ?_ | with_reducible refine Blk.ext ?_ _ | (with_reducible refine Blk.new _ _ rfl ?_; first | with_reducible rfl | (simp; done)) | with_reducible refine Blk.alloc ?_ _ | with_reducible assumption | with_reducible apply Blk.setE | (with_reducible refine Blk.other' ?_ ?_; first | omega | (simp; omega)) | (show List.set _ _ _ = _; exact rfl) | (show _ < List.length _; simp; done))))
      have HB11 := hid (show Blk W (w.heap.size + 1 + 1 + 1 + r1.new.size) [.int .i64 x1, .int .u32 x2, .int .u32 0] by rw [← hW]; (show Blk _ _ _; repeat (first | with_reducible (refine Hid.out ?_; assumption) | with_reducible refine Blk.drew ?_ | with_reducible refine Blk.ext ?_ _ | (with_reducible refine Blk.new _ _ rfl ?_; first | with_reducible rfl | (simp; done)) | with_reducible refine Blk.alloc ?_ _ | with_reducible assumption | with_reducible apply Blk.setE | (with_reducible refine Blk.other' ?_ ?_; first | omega | (simp; omega)) | (show List.set _ _ _ = _; exact rfl) | (show _ < List.length _; simp; done))))
      have HBd := hid (show Blk W (w.heap.size + 1 + 1 + 1 + r1.new.size + 1 + r5.new.size) [.int .i64 a', .int .i64 b', .int .i64 1, .slice s' es.length cp'] by rw [← hW]; (show Blk _ _ _; repeat (first | with_reducible (refine Hid.out ?_; assumption) | with_reducible refine Blk.drew ?_ | with_reducible refine Blk.ext ?_ _ | (with_reducible refine Blk.new _ _ rfl ?_; first | with_reducible rfl | (simp; done)) | with_reducible refine Blk.alloc ?_ _ | with_reducible assumption | with_reducible apply Blk.setE | (with_reducible refine Blk.other' ?_ ?_; first | omega | (simp; omega)) | (show List.set _ _ _ = _; exact rfl) | (show _ < List.length _; simp; done))))
      have HWx := hid (show Ext w W by rw [← hW]; (show Ext _ _; repeat (first | with_reducible (refine Hid.out ?_; assumption) | with_reducible exact Ext.refl _ | with_reducible refine Ext.ext ?_ _ | with_reducible refine Ext.alloc ?_ _ | with_reducible refine Ext.drew ?_ | with_reducible refine Ext.setCell ?_ (by (try dsimp only); first | omega | (simp; done) | (simp; omega)) _)))
      have HE0 := hid (HEs.out.of enE_len (show Ext _ W by rw [← hW]; (show Ext _ _; repeat (first | with_reducible (refine Hid.out ?_; assumption) | with_reducible exact Ext.refl _ | with_reducible refine Ext.ext ?_ _ | with_reducible refine Ext.alloc ?_ _ | with_reducible refine Ext.drew ?_ | with_reducible refine Ext.setCell ?_ (by (try dsimp only); first | omega | (simp; done) | (simp; omega)) _))))
      generalize w.heap.size + 1 + 1 + 1 + r1.new.size + 1 + r5.new.size = gd at *
      generalize w.heap.size + 1 + 1 + 1 + r1.new.size = g11 at *
      clear hW
      go_loopw [13] (fun i wr => ∃ j : Nat, j ≤ es.length ∧ i = .int .i64 j ∧ Hid (R = outW x1 x2 (findW n (es.drop j))) ∧ Hid (Ext W wr)) (fun i _ => es.length - (intOf i).toNat)
      case atStart => exact ⟨0, by omega, rfl, HFi, hid (by (show Ext _ _; repeat (first | with_reducible (refine Hid.out ?_; assumption) | with_reducible exact Ext.refl _ | with_reducible refine Ext.ext ?_ _ | with_reducible refine Ext.alloc ?_ _ | refine Ext.drew ?_ | refine Ext.drewN ?_ _ | exact Ext.refl _)))⟩
      case round =>
        clear HFi
        obtain ⟨j, hj, rfl, HFi, HX⟩ := hrel
        have HXw := hid (HWx.out.trans HX.out)
        have d0 := (HB6.out.of HX.out).2.2 0 _ rfl
        have d1 := (HB6.out.of HX.out).2.2 1 _ rfl
        have d2 := (HB6.out.of HX.out).2.2 2 _ rfl
        have d4 := (HB6.out.of HX.out).2.1 0
        have d5 := (HB6.out.of HX.out).2.1 1
        have d6 := (HB6.out.of HX.out).2.1 2
        have d7 := (HB6.out.of HX.out).1
        obtain ⟨f0, f1, f2, f3⟩ := (HBd.out.of HX.out).four
        have f4 := (HBd.out.of HX.out).1
        by_cases hjl : j < es.length
        · have hd : decide (j < es.length) = true := decide_eq_true hjl
          obtain ⟨hnl, b0, o, hab, hbl, hcs⟩ := Sl.at HE0.out (List.getElem?_eq_getElem hjl)
          have HX1 := hid (List.getElem?_eq_getElem hjl)
          generalize es[j] = e at hcs HX1
          have HA := hid (findW_at (p := n) HX1.out)
          subst hab
          obtain ⟨loc, val, ver, ref, new, wr1⟩ := e
          have q0 := HX.out.cell (hcs 0 (by omega))
          have q1 := HX.out.cell (hcs 1 (by omega))
          have q2 := HX.out.cell (hcs 2 (by omega))
          have q3 := HX.out.cell (hcs 3 (by omega))
          have q4 := HX.out.cell (hcs 4 (by omega))
          have q5 := HX.out.cell (hcs 5 (by omega))
          simp [enE] at q0 q1 q2 q3 q4 q5
          have c1 := (HB8.out.of HX.out).2.2 1 _ rfl
          have c2 := (HB8.out.of HX.out).1
          clear hcs hnl
          by_cases hh : loc = n ∧ wr1 = true
          · have HR := hid (show R = (new, (x2 + 1) % 4294967296, 0) by rw [HFi.out, HA.out, if_pos hh]; rfl)
            obtain ⟨rfl, rfl⟩ := hh
            clear HFi HA
            (repeat (first | go_values | go_skip | go_guarded | go_step | go_upon | (simp only [Int.not_lt, Int.not_le] at *; go_simp) | (go_ite <;> go_prune <;> (try go_simp))))
            refine bodyPost_ret (v := .agg #[.int .i64 new, .int .u32 ((x2 + 1) % 4294967296), .int .u32 0]) (by simp [results, Tryd.results37, go_sem, d0, d1, d2, d7]) rfl ⟨by (show Ext _ _; repeat (first | with_reducible (refine Hid.out ?_; assumption) | with_reducible exact Ext.refl _ | with_reducible refine Ext.ext ?_ _ | with_reducible refine Ext.alloc ?_ _ | with_reducible refine Ext.drew ?_ | with_reducible refine Ext.setCell ?_ (by (try dsimp only); first | omega | (simp; done) | (simp; omega)) _)), by rw [HR.out]⟩
          · have HN := hid (show R = outW x1 x2 (findW n (es.drop (j + 1))) by rw [HFi.out, HA.out, if_neg hh])
            clear HFi HA
            have hcs : (loc == (n : Int)) = false ∨ ((loc == (n : Int)) = true ∧ wr1 = false) := by
              by_cases h5 : loc = n
              · exact .inr ⟨by simp [h5], by cases wr1; rfl; exact absurd ⟨h5, rfl⟩ hh⟩
              · exact .inl (by simpa using h5)
            clear hh
            rcases hcs with h5 | ⟨h5, rfl⟩
            all_goals
              go_wp2_with fail
              go_roundw
              case rel => exact ⟨j + 1, by omega, by go_num, HN, hid (by (show Ext _ _; repeat (first | with_reducible (refine Hid.out ?_; assumption) | with_reducible exact Ext.refl _ | with_reducible refine Ext.ext ?_ _ | with_reducible refine Ext.alloc ?_ _ | with_reducible refine Ext.drew ?_ | with_reducible refine Ext.setCell ?_ (by (try dsimp only); first | omega | (simp; done) | (simp; omega)) _)))⟩
              case measure => simp [intOf]; omega
        · have hd : decide (j < es.length) = false := decide_eq_false hjl
          have HR := hid (show R = (x1, x2, 0) by rw [HFi.out, List.drop_eq_nil_of_le (by omega)]; rfl)
          have c0 := (HB11.out.of HX.out).2.2 0 _ rfl
          have c1 := (HB11.out.of HX.out).2.2 1 _ rfl
          have c2 := (HB11.out.of HX.out).2.2 2 _ rfl
          clear HFi
          (repeat (first | go_values | go_skip | go_guarded | go_step | go_upon | (simp only [Int.not_lt, Int.not_le] at *; go_simp) | (go_ite <;> go_prune <;> (try go_simp))))
          refine bodyPost_ret (v := .agg #[.int .i64 x1, .int .u32 x2, .int .u32 0]) (by simp [results, Tryd.results37, go_sem, d0, d1, d2, d7]) rfl ⟨by (show Ext _ _; repeat (first | with_reducible (refine Hid.out ?_; assumption) | with_reducible exact Ext.refl _ | with_reducible refine Ext.ext ?_ _ | with_reducible refine Ext.alloc ?_ _ | with_reducible refine Ext.drew ?_ | with_reducible refine Ext.setCell ?_ (by (try dsimp only); first | omega | (simp; done) | (simp; omega)) _)), by rw [HR.out]⟩

end Go.Proofs.YtfijnpfhffhffaaDoor

namespace Go.Proofs.YtfijnpfhffhffaaDoor
set_option linter.unusedSimpArgs false
set_option linter.unusedVariables false
open Go.RowKit

theorem may_low {t c b p : Int} (h : mayN t c b p = true) : p < fromN t c b 4 := by
  unfold mayN at h
  rw [Bool.and_eq_true] at h
  obtain ⟨hr, h⟩ := h
  have hk := (right_lok hr).1
  have m3 : fromN t c b 3 ≤ fromN t c b 4 := from_mono hk 3
  have hc : fromN t c b 3 + c ≤ fromN t c b 4 := by
    obtain ⟨h1, h2, h3, h4, h5, h6⟩ := hk
    simp only [fromN, longN, manyN, szN, upN]
    simp
    omega
  rw [Bool.or_eq_true, decide_eq_true_eq, decide_eq_true_eq] at h
  rcases h with h | h <;> omega
theorem place_high {t c b who : Int} (h0 : -9223372036854775808 ≤ who) (h1 : who ≤ 9223372036854775807) (hm : (placeN t c b who).2 ≠ 0) : fromN t c b 4 ≤ (placeN t c b who).1 ∧ 1 ≤ who ∧ who ≤ 72 := by
  obtain ⟨hr, hp⟩ := place_val h0 h1 hm
  have hk := (right_lok hr).1
  have hf := from46 hk
  have hb := hk.2.2.2.2.2
  have ht := hk.2.1
  have ht1 := hk.1
  rcases hp with ⟨a1, a2, a3⟩ | ⟨a1, a2, a3, a4⟩
  · rw [a3]; dsimp only; omega
  · rw [a4]; dsimp only; omega

theorem dcheck_st {t c b who seq st : Int} {es : List En} (h : dcheckN t c b who seq st es = 0) {s : Int} (hs : 0 ≤ s ∧ s ≤ 3) : dcheckN t c b who seq s es = 0 := by
  obtain ⟨h1, h2, h3, h4, h5, h6, h7, h8⟩ := dcheck_ok h
  unfold dcheckN
  rw [if_neg (by rw [h1]; simp), if_neg h2, if_neg (by omega), if_neg (by omega), if_neg (by rw [h5]; simp), if_neg (by rw [h6]; simp), if_neg (by rw [h7]; simp), if_neg (by omega)]

/-- The status word alone turns. -/
theorem laid_status {t c b who seq : Int} {es : List En} (h : dcheckN t c b who seq 0 es = 0) {s : Int} (hs : 0 ≤ s ∧ s ≤ 3) {L : List Wd} (hl : (L.length : Int) = sizeN t c b) :
    (laidL t c b who seq 0 es L).set (placeN t c b who).1.toNat (s, seq, 0) = laidL t c b who seq s es L := by
  obtain ⟨_, h2, _, _, _, _, _, h8⟩ := dcheck_ok h
  have hr := place_room h2
  have h' := dcheck_st h hs
  apply List.ext_getElem?
  intro i
  unfold laidL
  rw [if_pos h, if_pos h', List.getElem?_set, putL_len, putL_get _ _ _ _ _ (by rw [wordsW_len]; exact Nat.le_refl _) (by omega), putL_get _ _ _ _ _ (by rw [wordsW_len]; exact Nat.le_refl _) (by omega)]
  by_cases hi : (placeN t c b who).1.toNat = i
  · rw [if_pos hi, if_pos (by omega), if_pos (by omega), show i - (placeN t c b who).1.toNat = 0 by omega]
    rfl
  · rw [if_neg hi]
    by_cases h3 : (placeN t c b who).1.toNat ≤ i ∧ i < (placeN t c b who).1.toNat + (2 + 3 * es.length)
    · rw [if_pos h3, if_pos h3]
      obtain ⟨m, hm⟩ : ∃ m, i - (placeN t c b who).1.toNat = m + 1 := ⟨i - (placeN t c b who).1.toNat - 1, by omega⟩
      rw [hm]
      rfl
    · rw [if_neg h3, if_neg h3]
/-- What may be written by a swap lies in no room. -/
theorem laid_may {t c b who seq st : Int} {es : List En} (hw0 : -9223372036854775808 ≤ who) (hw1 : who ≤ 9223372036854775807) {L : List Wd} (hl : (L.length : Int) = sizeN t c b) {i : Nat} (hi : mayN t c b i = true) :
    (laidL t c b who seq st es L)[i]? = L[i]? := by
  unfold laidL
  split
  · rename_i hd
    obtain ⟨_, h2, _, _, _, _, _, h8⟩ := dcheck_ok hd
    have hr := place_room h2
    have h1 := may_low hi
    have h3 := place_high hw0 hw1 h2
    rw [putL_get _ _ _ _ _ (by rw [wordsW_len]; exact Nat.le_refl _) (by omega), if_neg (by omega)]
  · rfl

theorem who_ref {who seq x : Int} (hw : 1 ≤ who ∧ who ≤ 72) (hs : 1 ≤ seq ∧ seq ≤ 16777215) (hx : 0 ≤ x ∧ x ≤ 4294967295) : x = (refN who seq).1 ↔ whoN x = (who, seq) := by
  unfold refN whoN
  rw [if_pos (by omega)]
  constructor
  · intro h
    dsimp only at h
    rw [if_pos (by omega)]
    simp only [Prod.mk.injEq]
    omega
  · intro h
    split at h
    · simp only [Prod.mk.injEq] at h
      dsimp only
      omega
    · simp only [Prod.mk.injEq] at h
      omega

/-- The law of DescDecides. -/
theorem dec_law {t c b who seq : Int} {es : List En} (hw0 : -9223372036854775808 ≤ who) (hw1 : who ≤ 9223372036854775807) (hd : dcheckN t c b who seq 0 es = 0) {s : Int} (hs : 1 ≤ s ∧ s ≤ 3) {L : List Wd} (hl : (L.length : Int) = sizeN t c b) (hok : ∀ a ∈ L, WdOk a)
    {i : Nat} {x : Wd} (hi : mayN t c b i = true) (hx : (laidL t c b who seq 0 es L)[i]? = some x) :
    logicN t c b (laidL t c b who seq s es L) i = (if x.2.2 = (refN who seq).1 ∧ s = 1 then outW x.1 x.2.1 (findW i es) else (logicN t c b (laidL t c b who seq 0 es L) i).1, 0) ∧ (logicN t c b (laidL t c b who seq 0 es L) i).2 = 0
    ∧ (x.2.2 = (refN who seq).1 → (logicN t c b (laidL t c b who seq 0 es L) i).1 = (x.1, x.2.1, 0)) := by
  obtain ⟨h1, h2, h3, h4, h5, h6, h7, h8⟩ := dcheck_ok hd
  have hds := dcheck_st hd (s := s) (by omega)
  have hpl := place_high hw0 hw1 h2
  have hxL : L[i]? = some x := by rw [← hx, laid_may hw0 hw1 hl hi]
  have hxs : (laidL t c b who seq s es L)[i]? = some x := by rw [laid_may hw0 hw1 hl hi]; exact hxL
  have hxk := (hok x (List.mem_of_getElem? hxL)).2.2
  have hlg : ∀ M : List Wd, M.length = L.length → M[i]? = some x → logicN t c b M i = (logicW t c b M x i, 0) := by
    intro M hM hMx
    unfold logicN
    rw [if_neg (by rintro (h | h); exact h h1; rw [hM, hl] at h; omega), if_neg (by rw [hi]; simp), Int.toNat_natCast, hMx]
  rw [hlg _ (laidL_len ..) hxs, hlg _ (laidL_len ..) hx]
  have hwr := who_ref (who := who) (seq := seq) ⟨hpl.2.1, hpl.2.2⟩ h3 hxk
  obtain ⟨x1, x2, x3⟩ := x
  dsimp only at hwr hxk ⊢
  have hrd : ∀ s', 0 ≤ s' ∧ s' ≤ 3 → ∀ u, -9223372036854775808 ≤ u → u ≤ 9223372036854775807 → readN t c b (laidL t c b who seq s' es L) u = if u = who then (0, some (seq, s', es)) else readN t c b L u := by
    intro s' hs' u hu0 hu1
    by_cases hu : u = who
    · rw [if_pos hu, hu]; exact read_laid (dcheck_st hd hs') hl
    · rw [if_neg hu]; exact read_other hu0 hu1 hw0 hw1 hu hl
  have hub : -9223372036854775808 ≤ (whoN x3).1 ∧ (whoN x3).1 ≤ 9223372036854775807 := by
    unfold whoN; split <;> dsimp only <;> omega
  unfold logicW
  dsimp only
  rw [hrd s (by omega) _ hub.1 hub.2, hrd 0 (by omega) _ hub.1 hub.2]
  by_cases hu : (whoN x3).1 = who
  · have hz : ¬ (whoN x3).1 = 0 := by omega
    have h01 : ¬ (seq = (whoN x3).2 ∧ (0 : Int) = 1) := by omega
    simp only [if_pos hu, if_neg hz, if_neg h01]
    by_cases hq : seq = (whoN x3).2
    · have hxr : x3 = (refN who seq).1 := hwr.2 (by rw [← hu, hq])
      by_cases hs1 : s = 1
      · rw [if_pos ⟨hq, hs1⟩, if_pos ⟨hxr, hs1⟩]; exact ⟨by rfl, by trivial, by simp⟩
      · rw [if_neg (fun h => hs1 h.2), if_neg (fun h => hs1 h.2)]; exact ⟨by rfl, by trivial, by simp⟩
    · have hxr : ¬ x3 = (refN who seq).1 := fun h => hq (by rw [hwr.1 h])
      rw [if_neg (by rintro ⟨h, _⟩; exact hq h), if_neg (by rintro ⟨h, _⟩; exact hxr h)]
      exact ⟨by rfl, by trivial, by simp⟩
  · have hxr : ¬ x3 = (refN who seq).1 := fun h => hu (by rw [hwr.1 h])
    rw [if_neg hu, if_neg hu, if_neg (show ¬ (x3 = (refN who seq).1 ∧ s = 1) by rintro ⟨h, _⟩; exact hxr h)]
    exact ⟨rfl, rfl, fun h => absurd h hxr⟩

/-- Plain: the word wanted after k entries. -/
def wantTo (es : List En) (i : Int) (c : Bool) (y : Int) (a : Wd) : Nat → Wd
  | 0 => a
  | k + 1 => match es[k]? with
    | some e => if (decide (e.loc = i) && e.wr && c) = true then (e.new, (y + 1) % 4294967296, 0) else wantTo es i c y a k
    | none => wantTo es i c y a k
theorem wantTo_at {es : List En} {i : Int} {c : Bool} {y : Int} {a : Wd} {k : Nat} {e : En} (h : es[k]? = some e) : wantTo es i c y a (k + 1) = if (decide (e.loc = i) && e.wr && c) = true then (e.new, (y + 1) % 4294967296, 0) else wantTo es i c y a k := by
  simp only [wantTo, h]
theorem inc_all : ∀ (r : List En) (e : En), incP (some e) r → ∀ x ∈ r, e.loc < x.loc
  | [], _, _, _, hx => by simp at hx
  | d :: r, e, h, x, hx => by
    obtain ⟨h1, h2⟩ := h
    have h3 := h1 e rfl
    rcases List.mem_cons.1 hx with rfl | hx
    · exact h3
    · have := inc_all r d h2 x hx; omega
theorem want_no : ∀ (es : List En) (i : Int) (c : Bool) (y : Int) (a : Wd) (k : Nat), (∀ x ∈ es, x.loc ≠ i) ∨ c = false → wantTo es i c y a k = a
  | _, _, _, _, _, 0, _ => rfl
  | es, i, c, y, a, k + 1, h => by
    have ih := want_no es i c y a k h
    unfold wantTo
    split
    · rename_i e he
      rw [if_neg, ih]
      rcases h with h | h
      · have := h e (List.mem_of_getElem? he); simp [this]
      · simp [h]
    · exact ih
theorem want_cons (e : En) (r : List En) (i : Int) (c : Bool) (y : Int) (a : Wd) : ∀ k, wantTo (e :: r) i c y a (k + 1) = wantTo r i c y (if (decide (e.loc = i) && e.wr && c) = true then (e.new, (y + 1) % 4294967296, 0) else a) k
  | 0 => by simp [wantTo]
  | k + 1 => by
    rw [wantTo, want_cons e r i c y a k]
    simp only [List.getElem?_cons_succ]
    rfl
theorem want_law : ∀ (es : List En) (q : Option En), incP q es → ∀ (i : Int) (c : Bool) (y : Int) (a : Wd), wantTo es i c y a es.length = if c = true then (match findW i es with | some v => (v, (y + 1) % 4294967296, 0) | none => a) else a
  | [], _, _, i, c, y, a => by cases c <;> rfl
  | e :: r, q, h, i, c, y, a => by
    obtain ⟨_, h2⟩ := h
    rw [List.length_cons, want_cons]
    cases c with
    | false => simp only [Bool.and_false, Bool.false_eq_true, if_false]; exact want_no r i false y a _ (.inr rfl)
    | true =>
      simp only [Bool.and_true, if_true, findW]
      by_cases hl : e.loc = i
      · have hn : ∀ x ∈ r, x.loc ≠ i := fun x hx => by have := inc_all r e h2 x hx; omega
        have hf : ∀ r : List En, (∀ x ∈ r, x.loc ≠ i) → findW i r = none := by
          intro r
          induction r with
          | nil => intro _; rfl
          | cons d r ih =>
            intro hd
            rw [findW, if_neg (fun h => hd d (List.mem_cons_self ..) h.1), ih (fun x hx => hd x (List.mem_cons_of_mem _ hx))]
        rw [want_no r i true y _ _ (.inl hn), hf r hn]
        cases hw : e.wr <;> simp [hl]
      · rw [want_law r (some e) h2 i true y, if_pos rfl]
        simp [hl]
theorem check_inc {t c b who seq st : Int} {es : List En} (h : dcheckN t c b who seq st es = 0) : incP none es := by
  obtain ⟨_, _, _, _, h5, h6, _, _⟩ := dcheck_ok h
  have hr := (right_iff es).2 ⟨h5, h6⟩
  unfold rightB at hr
  rw [Bool.and_eq_true] at hr
  exact ((rightGo_iff es none).1 hr.1).2

/-- Plain: the references of the entries installed. -/
def instTo (t c b : Int) (L : List Wd) (es : List En) (r : Int) : Nat → List Wd
  | 0 => L
  | k + 1 => match es[k]? with
    | some e => if k % 3 ≠ 2 ∧ mayN t c b e.loc = true then (instTo t c b L es r k).set e.loc.toNat (e.val, e.ver, r) else instTo t c b L es r k
    | none => instTo t c b L es r k
theorem instTo_len (t c b : Int) (L : List Wd) (es : List En) (r : Int) (k : Nat) : (instTo t c b L es r k).length = L.length := by
  induction k with
  | zero => rfl
  | succ k ih =>
    simp only [instTo]
    split
    · split <;> simp [ih]
    · exact ih
theorem instTo_yes {t c b : Int} {L : List Wd} {es : List En} {r : Int} {k : Nat} {e : En} (h : es[k]? = some e) (h1 : k % 3 ≠ 2) (h2 : mayN t c b e.loc = true) : instTo t c b L es r (k + 1) = (instTo t c b L es r k).set e.loc.toNat (e.val, e.ver, r) := by
  simp only [instTo, h]; rw [if_pos ⟨h1, h2⟩]
theorem instTo_no {t c b : Int} {L : List Wd} {es : List En} {r : Int} {k : Nat} {e : En} (h : es[k]? = some e) (h1 : ¬ (k % 3 ≠ 2 ∧ mayN t c b e.loc = true)) : instTo t c b L es r (k + 1) = instTo t c b L es r k := by
  simp only [instTo, h]; rw [if_neg h1]
theorem ref_bd (who seq : Int) : 0 ≤ (refN who seq).1 ∧ (refN who seq).1 ≤ 4294967295 := by
  unfold refN; split <;> dsimp only <;> omega
theorem instTo_ok {t c b : Int} {L : List Wd} {es : List En} {r : Int} (hL : ∀ a ∈ L, WdOk a) (he : ∀ e ∈ es, EnOk e) (hr : 0 ≤ r ∧ r ≤ 4294967295) (k : Nat) : ∀ a ∈ instTo t c b L es r k, WdOk a := by
  induction k with
  | zero => exact hL
  | succ k ih =>
    unfold instTo
    split
    · rename_i e hx
      have hk := he e (List.mem_of_getElem? hx)
      split
      · exact set_ok ih ⟨⟨hk.val0, hk.val1⟩, ⟨hk.ver0, hk.ver1⟩, hr⟩ _
      · exact ih
    · exact ih
theorem rlog_same {q q' : Int → Option (Int × Int × List En)} {x : Wd} {p : Int} (h : q (x.2.2 / 16777216) = q' (x.2.2 / 16777216)) : rlogW q x p = rlogW q' x p := by
  unfold rlogW; rw [h]

end Go.Proofs.YtfijnpfhffhffaaDoor

namespace Go.Proofs.YtfijnpfhffhffaaDoor
set_option linter.unusedSimpArgs false
set_option linter.unusedVariables false
open Go.RowKit

theorem logG_put2 (f : Nat → Wd) (L : List Wd) (p : Nat) {x : Wd} (h : f p = x) : put1 (logG f) L p = L.set p x := by rw [← h]; rfl
theorem statG_yes2 {L M : List Wd} {p : Nat} {x y z : Int} (h : L[p]? = some (x, y, z)) (hu : undB (x, y, z) = true) : put1 (statG L) M p = M.set p (2, y, 0) := by
  unfold put1 statG; rw [h]; dsimp only; rw [if_pos hu]
theorem statG_no2 {L M : List Wd} {p : Nat} {x : Wd} (h : L[p]? = some x) (hu : undB x = false) : put1 (statG L) M p = M := by
  unfold put1 statG; rw [h]; dsimp only; rw [hu]; rfl
theorem zeroG_put2 (L : List Wd) (p : Nat) : put1 zeroG L p = L.set p (0, 0, 0) := rfl

/-- Plain: what the reference's Logical makes of a place. -/
def rlogF (T B sl rm : Int) (ws : List Bool) (L : List Wd) (p : Nat) : Wd := rlogW (rreadO T B sl rm ws L) (L.getD p (0, 0, 0)) p

set_option maxRecDepth 100000 in
set_option maxHeartbeats 8000000 in
theorem refwords_any (T B sl rm sz : Int) (hT : 0 ≤ T ∧ T ≤ 8) (hB : 0 ≤ B ∧ B ≤ 64) (hsl : 0 ≤ sl ∧ sl ≤ 100000) (hrm : 0 ≤ rm ∧ rm ≤ 100000) (ws : List Bool) (pv mv sv ov : Value) (L : List Wd) (lv : Value) (hok : ∀ a ∈ L, WdOk a) (hll : L.length ≤ 10000) (hl0 : 0 < L.length)
    (hroom : ∀ who, -9223372036854775808 ≤ who → who ≤ 9223372036854775807 → ¬ (rplaceN T B sl rm who).1 < 0 → (rplaceN T B sl rm who).1 ≤ 30000 ∧ (0 ≤ (rplaceN T B sl rm who).2 ∧ (rplaceN T B sl rm who).2 ≤ 32) ∧ (rplaceN T B sl rm who).1 + 2 + 3 * (rplaceN T B sl rm who).2 ≤ (L.length : Int))
    (ms ss os : List Nat) (hms : ∀ (j p : Nat), ms[j]? = some p → p < L.length) (hss : ∀ (j p : Nat), ss[j]? = some p → p < L.length) (hos : ∀ (j p : Nat), os[j]? = some p → p < L.length) (lm : ms.length ≤ 10000) (ls : ss.length ≤ 10000) (lo : os.length ≤ 10000)
    (w : World) (hp : Sl w 1 boE pv ws) (hm : Sl w 1 locE mv ms) (hs : Sl w 1 locE sv ss) (ho : Sl w 1 locE ov os) (hv : Sl w 3 wdE lv L) :
    Calls Tryd.prog 12 #[.agg #[.int .i64 T, .int .i64 B, .int .i64 sl, .int .i64 rm, .int .i64 104, .int .i64 32, pv, .int .i64 sz, mv, sv, ov], lv] w
      fun y w' => ∃ v, y = .returned v ∧ (∃ r, w' = ext w r) ∧ Ws w' w.heap.size v (redoW (rlogF T B sl rm ws L) L ms ss os) := by
  have HPv := hid hp
  have HMv := hid hm
  have HSv := hid hs
  have HOv := hid ho
  have HV := hid hv
  have HOk := hid hok
  have HRoom := hid hroom
  have HT := hid hT
  have HB := hid hB
  have HSl := hid hsl
  have HRm := hid hrm
  have HMi := hid hms
  have HSi := hid hss
  have HOi := hid hos
  obtain ⟨pa, pc, rfl, hq, hq2⟩ := hp
  clear hq hq2
  obtain ⟨ma, mc, rfl, hq, hq2⟩ := hm
  clear hq hq2
  obtain ⟨sa, sc, rfl, hq, hq2⟩ := hs
  clear hq hq2
  obtain ⟨oa, oc, rfl, hq, hq2⟩ := ho
  clear hq hq2
  obtain ⟨a, cp, rfl, ⟨hq, hlc⟩, hq2⟩ := hv
  clear hq hq2 hok hroom hT hB hsl hrm hms hss hos
  obtain ⟨N, hN⟩ : ∃ N, N = L.length := ⟨_, rfl⟩
  rw [← hN] at hll hl0 hlc ⊢
  have HN := hid hN.symm
  obtain ⟨b0, o0, rfl, hbl⟩ : ∃ b0 o0, a = some ⟨b0, o0, none⟩ ∧ b0 < w.heap.size := by
    obtain ⟨_, b0, o0, g1, g2, _⟩ := Sl.at HV.out (List.getElem?_eq_getElem (show 0 < L.length by omega))
    exact ⟨b0, o0, g1, g2⟩
  have HVk := hid (show Wsl w (.slice (some ⟨b0, o0, none⟩) N cp) L by have := HV.out; rw [HN.out] at this; exact this)
  have HFl := hid (Sl.flat wdE_len (by omega) HVk.out)
  have HNil := hid (show ([] : List Wd) ++ L = L from rfl)
  clear hN HV
  go_enter Tryd.func12, Tryd.ntmps12
  go_upto_region 1 with fail
  generalize hU : World.alloc _ _ = U
  have HEU := hid (show Ext w U by rw [← hU]; (show Ext _ _; repeat (first | with_reducible (refine Hid.out ?_; assumption) | with_reducible exact Ext.refl _ | with_reducible refine Ext.ext ?_ _ | with_reducible refine Ext.alloc ?_ _ | refine Ext.drew ?_ | refine Ext.drewN ?_ _ | exact Ext.refl _)))
  have HBk := hid (show Blk U w.heap.size [.int .i64 T, .int .i64 B, .int .i64 sl, .int .i64 rm, .int .i64 104, .int .i64 32, .slice pa ws.length pc, .int .i64 sz, .slice ma ms.length mc, .slice sa ss.length sc, .slice oa os.length oc] by rw [← hU]; (show Blk _ _ _; repeat (first | with_reducible (refine Hid.out ?_; assumption) | with_reducible refine Blk.drew ?_ | with_reducible refine Blk.ext ?_ _ | (with_reducible refine Blk.new _ _ rfl ?_; first | with_reducible rfl | (simp; done)) | with_reducible refine Blk.alloc ?_ _ | with_reducible assumption | with_reducible apply Blk.setE | (with_reducible refine Blk.other' ?_ ?_; first | omega | (simp; omega)) | (show List.set _ _ _ = _; exact rfl) | (show _ < List.length _; simp; done))))
  have hwU : w.heap.size < U.heap.size := HBk.out.1
  clear hU
  go_wp2_with (at_builtin; refine mws_append rfl _ _ rfl U (by (show Ext _ _; repeat (first | with_reducible (refine Hid.out ?_; assumption) | with_reducible exact Ext.refl _ | with_reducible refine Ext.ext ?_ _ | with_reducible refine Ext.alloc ?_ _ | refine Ext.drew ?_ | refine Ext.drewN ?_ _ | exact Ext.refl _))) (Nat.le_refl _) (by (first | exact Nat.le_refl _ | (simp; done) | (simp; omega))) rfl (Own.made #[] [] 0 rfl (Nat.le_refl _) (by unfold maxLen; omega) rfl rfl) ⟨b0, o0, none⟩ N cp rfl L HN.out (fun j u hu => Ext.cell (HEU.out.trans (show Ext U _ by (show Ext _ _; repeat (first | with_reducible (refine Hid.out ?_; assumption) | with_reducible exact Ext.refl _ | with_reducible refine Ext.ext ?_ _ | with_reducible refine Ext.alloc ?_ _ | refine Ext.drew ?_ | refine Ext.drewN ?_ _ | exact Ext.refl _)))) (HFl.out j u hu)) (by simp; omega) ?_; rintro v5 r5 hv5; rw [List.nil_append] at hv5; obtain ⟨g, c5, rfl, hg1, hg2⟩ := Ws.open hv5 (by rw [HN.out]; omega); rw [HN.out] at hv5 ⊢; have HV5 := hid hv5; clear hv5)
  generalize hX : ext _ r5 = X at *
  have HEX := hid (show Ext w X by rw [← hX]; exact HEU.out.trans (by (show Ext _ _; repeat (first | with_reducible (refine Hid.out ?_; assumption) | with_reducible exact Ext.refl _ | with_reducible refine Ext.ext ?_ _ | with_reducible refine Ext.alloc ?_ _ | refine Ext.drew ?_ | refine Ext.drewN ?_ _ | exact Ext.refl _))))
  have HBX := hid (HBk.out.of (show Ext U X by rw [← hX]; (show Ext _ _; repeat (first | with_reducible (refine Hid.out ?_; assumption) | with_reducible exact Ext.refl _ | with_reducible refine Ext.ext ?_ _ | with_reducible refine Ext.alloc ?_ _ | refine Ext.drew ?_ | refine Ext.drewN ?_ _ | exact Ext.refl _))))
  have HLX := hid (show Ws X w.heap.size (.slice (some ⟨g, 0, none⟩) N c5) L from Own.mono HV5.out HEU.out.size)
  have hgX : g < X.heap.size := hg2
  have hwg : w.heap.size ≠ g := by omega
  have hwg2 : w.heap.size ≤ g := by omega
  clear hX HBk HEU HV5 hg2
  go_loopw [6] (fun i wr => ∃ j : Nat, j ≤ ms.length ∧ i = .int .i64 j ∧ Hid (Ws wr w.heap.size (.slice (some ⟨g, 0, none⟩) N c5) (putF (logG (rlogF T B sl rm ws L)) L (ms.take j))) ∧ Hid (Grn g X wr)) (fun i _ => ms.length - (intOf i).toNat)
  case atStart => exact ⟨0, by omega, rfl, HLX, hid Grn.refl⟩
  case round =>
  clear HLX
  obtain ⟨j, hj, rfl, HW, HG⟩ := hrel
  have hUs := HEX.out.size
  have HEw := hid (HEX.out.grn HG.out hwg2)
  have HBw := hid (HBX.out.grn HG.out hwg)
  have hgr : g < wr.heap.size := Nat.lt_of_lt_of_le hgX HG.out.size
  have d0 := HBw.out.2.2 0 _ rfl
  have d1 := HBw.out.2.2 1 _ rfl
  have d2 := HBw.out.2.2 2 _ rfl
  have d3 := HBw.out.2.2 3 _ rfl
  have d4 := HBw.out.2.2 4 _ rfl
  have d5 := HBw.out.2.2 5 _ rfl
  have d6 := HBw.out.2.2 6 _ rfl
  have d7 := HBw.out.2.2 7 _ rfl
  have d8 := HBw.out.2.2 8 _ rfl
  have d9 := HBw.out.1
  by_cases hjl : j < ms.length
  · have hdj : decide (j < ms.length) = true := decide_eq_true hjl
    have hji : (j : Int) < (ms.length : Int) := by omega
    obtain ⟨p, hp⟩ : ∃ p, ms[j]? = some p := ⟨_, List.getElem?_eq_getElem hjl⟩
    have HNx := hid (putF_take (g := logG (rlogF T B sl rm ws L)) (L := L) hp)
    obtain ⟨_, bm, om, hab, hbm, hcm⟩ := Sl.at (HMv.out.of locE_len HEw.out) hp
    have hbmg : bm ≠ g := by
      obtain ⟨_, b', o', hab', hb', _⟩ := Sl.at HMv.out hp
      rw [hab] at hab'
      cases hab'
      omega
    subst hab
    have k0 := hcm 0 (by omega)
    simp [locE] at k0
    have hpn := HMi.out j p hp
    rw [HN.out] at hpn
    have hlen : (putF (logG (rlogF T B sl rm ws L)) L (ms.take j)).length = N := by rw [putF_len, HN.out]
    obtain ⟨⟨y1, y2, y3⟩, hy⟩ : ∃ y, (putF (logG (rlogF T B sl rm ws L)) L (ms.take j))[p]? = some y := ⟨_, List.getElem?_eq_getElem (by rw [hlen]; omega)⟩
    obtain ⟨m0, m1, m2⟩ := Ws.cells HW.out hy
    have f0 := Ws.free HW.out (p * 3)
    have f1 := Ws.free HW.out (p * 3 + 1)
    have f2 := Ws.free HW.out (p * 3 + 2)
    have HLn := hid hlen
    obtain ⟨⟨z1, z2, z3⟩, hz⟩ : ∃ x, L[p]? = some x := ⟨_, List.getElem?_eq_getElem (by rw [HN.out]; omega)⟩
    have HZ := hid hz
    obtain ⟨⟨x1, x2, x3⟩, hx⟩ : ∃ x, x = rlogW (rreadO T B sl rm ws L) (z1, z2, z3) p := ⟨_, rfl⟩
    have HLx := hid hx.symm
    have HPu := hid (show put1 (logG (rlogF T B sl rm ws L)) (putF (logG (rlogF T B sl rm ws L)) L (ms.take j)) p = (putF (logG (rlogF T B sl rm ws L)) L (ms.take j)).set p (x1, x2, x3) from logG_put2 _ _ _ (by unfold rlogF; rw [List.getD_eq_getElem?_getD, hz]; exact hx.symm))
    have t2 : (p : Int) < (N : Int) := by omega
    clear hcm hy hlen hx hp hz
    go_upto_region 5 with fail
    refine wp_region_held_drew (S := fun w' => ((w'.cell? ⟨w.heap.size, 0, none⟩ = some (.int .i64 T) ∧ w'.cell? ⟨w.heap.size, 1, none⟩ = some (.int .i64 B) ∧ w'.cell? ⟨w.heap.size, 2, none⟩ = some (.int .i64 sl) ∧ w'.cell? ⟨w.heap.size, 3, none⟩ = some (.int .i64 rm)) ∧ (w'.cell? ⟨w.heap.size, 4, none⟩ = some (.int .i64 104) ∧ w'.cell? ⟨w.heap.size, 5, none⟩ = some (.int .i64 32) ∧ w'.cell? ⟨w.heap.size, 6, none⟩ = some (.slice pa ws.length pc) ∧ w'.cell? ⟨w.heap.size, 7, none⟩ = some (.int .i64 sz)) ∧ w'.cell? ⟨w.heap.size, 8, none⟩ = some (.slice (some ⟨bm, om, none⟩) ms.length mc)) ∧ w'.cell? ⟨bm, om + j, none⟩ = some (.int .i64 p)) (by kernel_rfl) (by exact ⟨⟨⟨(show Grn g wr _ from by (show Grn _ _ _; repeat (first | with_reducible exact Grn.refl | with_reducible refine Grn.setCell ?_ _ _ | with_reducible refine Grn.ext ?_ _ | with_reducible refine Grn.alloc ?_ _ | with_reducible refine Grn.drew ?_))).cell hwg d0, (show Grn g wr _ from by (show Grn _ _ _; repeat (first | with_reducible exact Grn.refl | with_reducible refine Grn.setCell ?_ _ _ | with_reducible refine Grn.ext ?_ _ | with_reducible refine Grn.alloc ?_ _ | with_reducible refine Grn.drew ?_))).cell hwg d1, (show Grn g wr _ from by (show Grn _ _ _; repeat (first | with_reducible exact Grn.refl | with_reducible refine Grn.setCell ?_ _ _ | with_reducible refine Grn.ext ?_ _ | with_reducible refine Grn.alloc ?_ _ | with_reducible refine Grn.drew ?_))).cell hwg d2, (show Grn g wr _ from by (show Grn _ _ _; repeat (first | with_reducible exact Grn.refl | with_reducible refine Grn.setCell ?_ _ _ | with_reducible refine Grn.ext ?_ _ | with_reducible refine Grn.alloc ?_ _ | with_reducible refine Grn.drew ?_))).cell hwg d3⟩, ⟨(show Grn g wr _ from by (show Grn _ _ _; repeat (first | with_reducible exact Grn.refl | with_reducible refine Grn.setCell ?_ _ _ | with_reducible refine Grn.ext ?_ _ | with_reducible refine Grn.alloc ?_ _ | with_reducible refine Grn.drew ?_))).cell hwg d4, (show Grn g wr _ from by (show Grn _ _ _; repeat (first | with_reducible exact Grn.refl | with_reducible refine Grn.setCell ?_ _ _ | with_reducible refine Grn.ext ?_ _ | with_reducible refine Grn.alloc ?_ _ | with_reducible refine Grn.drew ?_))).cell hwg d5, (show Grn g wr _ from by (show Grn _ _ _; repeat (first | with_reducible exact Grn.refl | with_reducible refine Grn.setCell ?_ _ _ | with_reducible refine Grn.ext ?_ _ | with_reducible refine Grn.alloc ?_ _ | with_reducible refine Grn.drew ?_))).cell hwg d6, (show Grn g wr _ from by (show Grn _ _ _; repeat (first | with_reducible exact Grn.refl | with_reducible refine Grn.setCell ?_ _ _ | with_reducible refine Grn.ext ?_ _ | with_reducible refine Grn.alloc ?_ _ | with_reducible refine Grn.drew ?_))).cell hwg d7⟩, (show Grn g wr _ from by (show Grn _ _ _; repeat (first | with_reducible exact Grn.refl | with_reducible refine Grn.setCell ?_ _ _ | with_reducible refine Grn.ext ?_ _ | with_reducible refine Grn.alloc ?_ _ | with_reducible refine Grn.drew ?_))).cell hwg d8⟩, (show Grn g wr _ from by (show Grn _ _ _; repeat (first | with_reducible exact Grn.refl | with_reducible refine Grn.setCell ?_ _ _ | with_reducible refine Grn.ext ?_ _ | with_reducible refine Grn.alloc ?_ _ | with_reducible refine Grn.drew ?_))).cell hbmg k0⟩) (fun hHeld => ?_)
    refine take_met 0 (oi := ⟨_, _, _, _, _, _⟩) (v := ?_) (by kernel_rfl) rfl (by rfl) (fun _ _ _ h => h) (by assumption) ?_ ?_
    rotate_left 1
    · intro w hSw
      try dsimp only at hSw
      go_simp
      try with_reducible rfl
    (try simp only [Act.put, List.setIfInBounds_toArray, List.set_cons_zero, List.set_cons_succ])
    refine take_met 1 (oi := ⟨_, _, _, _, _, _⟩) (v := ?_) (by kernel_rfl) rfl (by rfl) (fun _ _ _ h => h) (by assumption) ?_ ?_
    rotate_left 1
    · intro w hSw
      try dsimp only at hSw
      go_simp
      try with_reducible rfl
    (try simp only [Act.put, List.setIfInBounds_toArray, List.set_cons_zero, List.set_cons_succ])
    refine take_met 2 (oi := ⟨_, _, _, _, _, _⟩) (v := ?_) (by kernel_rfl) rfl (by rfl) (fun _ _ _ h => h) (by assumption) ?_ ?_
    rotate_left 1
    · intro w hSw
      try dsimp only at hSw
      go_simp
      try with_reducible rfl
    (try simp only [Act.put, List.setIfInBounds_toArray, List.set_cons_zero, List.set_cons_succ])
    refine take_met 3 (oi := ⟨_, _, _, _, _, _⟩) (v := ?_) (by kernel_rfl) rfl (by rfl) (fun _ _ _ h => h) (by assumption) ?_ ?_
    rotate_left 1
    · intro w hSw
      try dsimp only at hSw
      go_simp
      try with_reducible rfl
    (try simp only [Act.put, List.setIfInBounds_toArray, List.set_cons_zero, List.set_cons_succ])
    refine take_met 4 (oi := ⟨_, _, _, _, _, _⟩) (v := ?_) (by kernel_rfl) rfl (by rfl) (fun _ _ _ h => h) (by assumption) ?_ ?_
    rotate_left 1
    · intro w hSw
      try dsimp only at hSw
      go_simp
      try with_reducible rfl
    (try simp only [Act.put, List.setIfInBounds_toArray, List.set_cons_zero, List.set_cons_succ])
    refine take_met 5 (oi := ⟨_, _, _, _, _, _⟩) (v := ?_) (by kernel_rfl) rfl (by rfl) (fun _ _ _ h => h) (by assumption) ?_ ?_
    rotate_left 1
    · intro w hSw
      try dsimp only at hSw
      go_simp
      try with_reducible rfl
    (try simp only [Act.put, List.setIfInBounds_toArray, List.set_cons_zero, List.set_cons_succ])
    refine take_met 6 (oi := ⟨_, _, _, _, _, _⟩) (v := ?_) (by kernel_rfl) rfl (by rfl) (fun _ _ _ h => h) (by assumption) ?_ ?_
    rotate_left 1
    · intro w hSw
      try dsimp only at hSw
      go_simp
      try with_reducible rfl
    (try simp only [Act.put, List.setIfInBounds_toArray, List.set_cons_zero, List.set_cons_succ])
    refine take_met 7 (oi := ⟨_, _, _, _, _, _⟩) (v := ?_) (by kernel_rfl) rfl (by rfl) (fun _ _ _ h => h) (by assumption) ?_ ?_
    rotate_left 1
    · intro w hSw
      try dsimp only at hSw
      go_simp
      try with_reducible rfl
    (try simp only [Act.put, List.setIfInBounds_toArray, List.set_cons_zero, List.set_cons_succ])
    refine take_met 8 (oi := ⟨_, _, _, _, _, _⟩) (v := ?_) (by kernel_rfl) rfl (by rfl) (fun _ _ _ h => h) (by assumption) ?_ ?_
    rotate_left 1
    · intro w hSw
      try dsimp only at hSw
      go_simp
      try with_reducible rfl
    (try simp only [Act.put, List.setIfInBounds_toArray, List.set_cons_zero, List.set_cons_succ])
    refine take_met 9 (oi := ⟨_, _, _, _, _, _⟩) (v := ?_) (by kernel_rfl) rfl (by rfl) (fun _ _ _ h => h) (by assumption) ?_ ?_
    rotate_left 1
    · intro w hSw
      try dsimp only at hSw
      go_simp
      try with_reducible rfl
    (try simp only [Act.put, List.setIfInBounds_toArray, List.set_cons_zero, List.set_cons_succ])
    refine take_met 10 (oi := ⟨_, _, _, _, _, _⟩) (v := ?_) (by kernel_rfl) rfl (by rfl) (fun _ _ _ h => h) (by assumption) ?_ ?_
    rotate_left 1
    · intro w hSw
      try dsimp only at hSw
      go_simp
      try with_reducible rfl
    (try simp only [Act.put, List.setIfInBounds_toArray, List.set_cons_zero, List.set_cons_succ])
    refine take_met 11 (oi := ⟨_, _, _, _, _, _⟩) (v := ?_) (by kernel_rfl) rfl (by rfl) (fun _ _ _ h => h) (by assumption) ?_ ?_
    rotate_left 1
    · intro w hSw
      try dsimp only at hSw
      go_simp
      try with_reducible rfl
    (try simp only [Act.put, List.setIfInBounds_toArray, List.set_cons_zero, List.set_cons_succ])
    refine take_met 12 (oi := ⟨_, _, _, _, _, _⟩) (v := ?_) (by kernel_rfl) rfl (by rfl) (fun _ _ _ h => h) (by assumption) ?_ ?_
    rotate_left 1
    · intro w hSw
      try dsimp only at hSw
      go_simp
      try with_reducible rfl
    (try simp only [Act.put, List.setIfInBounds_toArray, List.set_cons_zero, List.set_cons_succ])
    refine take_met 13 (oi := ⟨_, _, _, _, _, _⟩) (v := ?_) (by kernel_rfl) rfl (by rfl) (fun _ _ _ h => h) (by assumption) ?_ ?_
    rotate_left 1
    · intro w hSw
      try dsimp only at hSw
      go_simp
      try with_reducible rfl
    (try simp only [Act.put, List.setIfInBounds_toArray, List.set_cons_zero, List.set_cons_succ])
    refine take_only 14 (oi := ⟨_, _, _, _, _, _⟩) (by kernel_rfl) rfl (fun K hK => ?_)
    go_simp
    first
      | (go_at_call 37; refine (rlogical_any T B sl rm sz HT.out HB.out HSl.out HRm.out ws _ L _ HOk.out (fun who g1 g2 g3 => HRoom.out who g1 g2 (by omega)) p z1 z2 z3 HZ.out _ (HPv.out.of boE_len (HEw.out.trans (by (show Ext _ _; repeat (first | with_reducible (refine Hid.out ?_; assumption) | with_reducible exact Ext.refl _ | with_reducible refine Ext.ext ?_ _ | with_reducible refine Ext.alloc ?_ _ | refine Ext.drew ?_ | refine Ext.drewN ?_ _ | exact Ext.refl _))))) (HVk.out.of wdE_len (HEw.out.trans (by (show Ext _ _; repeat (first | with_reducible (refine Hid.out ?_; assumption) | with_reducible exact Ext.refl _ | with_reducible refine Ext.ext ?_ _ | with_reducible refine Ext.alloc ?_ _ | refine Ext.drew ?_ | refine Ext.drewN ?_ _ | exact Ext.refl _)))))).mono ?_; rintro y w' ⟨⟨r6, rfl⟩, rfl⟩; rw [HLx.out]; dsimp only)
    have hOld := hHeld
    clear hHeld
    refine hK.out _ _ (by exact ⟨⟨⟨(show Grn g wr _ from by (show Grn _ _ _; repeat (first | with_reducible exact Grn.refl | with_reducible refine Grn.setCell ?_ _ _ | with_reducible refine Grn.ext ?_ _ | with_reducible refine Grn.alloc ?_ _ | with_reducible refine Grn.drew ?_))).cell hwg d0, (show Grn g wr _ from by (show Grn _ _ _; repeat (first | with_reducible exact Grn.refl | with_reducible refine Grn.setCell ?_ _ _ | with_reducible refine Grn.ext ?_ _ | with_reducible refine Grn.alloc ?_ _ | with_reducible refine Grn.drew ?_))).cell hwg d1, (show Grn g wr _ from by (show Grn _ _ _; repeat (first | with_reducible exact Grn.refl | with_reducible refine Grn.setCell ?_ _ _ | with_reducible refine Grn.ext ?_ _ | with_reducible refine Grn.alloc ?_ _ | with_reducible refine Grn.drew ?_))).cell hwg d2, (show Grn g wr _ from by (show Grn _ _ _; repeat (first | with_reducible exact Grn.refl | with_reducible refine Grn.setCell ?_ _ _ | with_reducible refine Grn.ext ?_ _ | with_reducible refine Grn.alloc ?_ _ | with_reducible refine Grn.drew ?_))).cell hwg d3⟩, ⟨(show Grn g wr _ from by (show Grn _ _ _; repeat (first | with_reducible exact Grn.refl | with_reducible refine Grn.setCell ?_ _ _ | with_reducible refine Grn.ext ?_ _ | with_reducible refine Grn.alloc ?_ _ | with_reducible refine Grn.drew ?_))).cell hwg d4, (show Grn g wr _ from by (show Grn _ _ _; repeat (first | with_reducible exact Grn.refl | with_reducible refine Grn.setCell ?_ _ _ | with_reducible refine Grn.ext ?_ _ | with_reducible refine Grn.alloc ?_ _ | with_reducible refine Grn.drew ?_))).cell hwg d5, (show Grn g wr _ from by (show Grn _ _ _; repeat (first | with_reducible exact Grn.refl | with_reducible refine Grn.setCell ?_ _ _ | with_reducible refine Grn.ext ?_ _ | with_reducible refine Grn.alloc ?_ _ | with_reducible refine Grn.drew ?_))).cell hwg d6, (show Grn g wr _ from by (show Grn _ _ _; repeat (first | with_reducible exact Grn.refl | with_reducible refine Grn.setCell ?_ _ _ | with_reducible refine Grn.ext ?_ _ | with_reducible refine Grn.alloc ?_ _ | with_reducible refine Grn.drew ?_))).cell hwg d7⟩, (show Grn g wr _ from by (show Grn _ _ _; repeat (first | with_reducible exact Grn.refl | with_reducible refine Grn.setCell ?_ _ _ | with_reducible refine Grn.ext ?_ _ | with_reducible refine Grn.alloc ?_ _ | with_reducible refine Grn.drew ?_))).cell hwg d8⟩, (show Grn g wr _ from by (show Grn _ _ _; repeat (first | with_reducible exact Grn.refl | with_reducible refine Grn.setCell ?_ _ _ | with_reducible refine Grn.ext ?_ _ | with_reducible refine Grn.alloc ?_ _ | with_reducible refine Grn.drew ?_))).cell hbmg k0⟩) (fun hHeld => ?_)
    clear hOld hK K
    (try simp only [Act.put, List.setIfInBounds_toArray, List.set_cons_zero, List.set_cons_succ])
    refine take_met 15 (oi := ⟨_, _, _, _, _, _⟩) (v := ?_) (by kernel_rfl) rfl (by rfl) (fun _ _ _ h => h) (by assumption) ?_ ?_
    rotate_left 1
    · intro w hSw
      try dsimp only at hSw
      go_simp
      try with_reducible rfl
    (try simp only [Act.put, List.setIfInBounds_toArray, List.set_cons_zero, List.set_cons_succ])
    refine take_only 16 (oi := ⟨_, _, _, _, _, _⟩) (by kernel_rfl) rfl (fun K hK => ?_)
    go_simp
    have hOld := hHeld
    clear hHeld
    refine hK.out _ _ (by exact ⟨⟨⟨(show Grn g wr _ from by (show Grn _ _ _; repeat (first | with_reducible exact Grn.refl | with_reducible refine Grn.setCell ?_ _ _ | with_reducible refine Grn.ext ?_ _ | with_reducible refine Grn.alloc ?_ _ | with_reducible refine Grn.drew ?_))).cell hwg d0, (show Grn g wr _ from by (show Grn _ _ _; repeat (first | with_reducible exact Grn.refl | with_reducible refine Grn.setCell ?_ _ _ | with_reducible refine Grn.ext ?_ _ | with_reducible refine Grn.alloc ?_ _ | with_reducible refine Grn.drew ?_))).cell hwg d1, (show Grn g wr _ from by (show Grn _ _ _; repeat (first | with_reducible exact Grn.refl | with_reducible refine Grn.setCell ?_ _ _ | with_reducible refine Grn.ext ?_ _ | with_reducible refine Grn.alloc ?_ _ | with_reducible refine Grn.drew ?_))).cell hwg d2, (show Grn g wr _ from by (show Grn _ _ _; repeat (first | with_reducible exact Grn.refl | with_reducible refine Grn.setCell ?_ _ _ | with_reducible refine Grn.ext ?_ _ | with_reducible refine Grn.alloc ?_ _ | with_reducible refine Grn.drew ?_))).cell hwg d3⟩, ⟨(show Grn g wr _ from by (show Grn _ _ _; repeat (first | with_reducible exact Grn.refl | with_reducible refine Grn.setCell ?_ _ _ | with_reducible refine Grn.ext ?_ _ | with_reducible refine Grn.alloc ?_ _ | with_reducible refine Grn.drew ?_))).cell hwg d4, (show Grn g wr _ from by (show Grn _ _ _; repeat (first | with_reducible exact Grn.refl | with_reducible refine Grn.setCell ?_ _ _ | with_reducible refine Grn.ext ?_ _ | with_reducible refine Grn.alloc ?_ _ | with_reducible refine Grn.drew ?_))).cell hwg d5, (show Grn g wr _ from by (show Grn _ _ _; repeat (first | with_reducible exact Grn.refl | with_reducible refine Grn.setCell ?_ _ _ | with_reducible refine Grn.ext ?_ _ | with_reducible refine Grn.alloc ?_ _ | with_reducible refine Grn.drew ?_))).cell hwg d6, (show Grn g wr _ from by (show Grn _ _ _; repeat (first | with_reducible exact Grn.refl | with_reducible refine Grn.setCell ?_ _ _ | with_reducible refine Grn.ext ?_ _ | with_reducible refine Grn.alloc ?_ _ | with_reducible refine Grn.drew ?_))).cell hwg d7⟩, (show Grn g wr _ from by (show Grn _ _ _; repeat (first | with_reducible exact Grn.refl | with_reducible refine Grn.setCell ?_ _ _ | with_reducible refine Grn.ext ?_ _ | with_reducible refine Grn.alloc ?_ _ | with_reducible refine Grn.drew ?_))).cell hwg d8⟩, (show Grn g wr _ from by (show Grn _ _ _; repeat (first | with_reducible exact Grn.refl | with_reducible refine Grn.setCell ?_ _ _ | with_reducible refine Grn.ext ?_ _ | with_reducible refine Grn.alloc ?_ _ | with_reducible refine Grn.drew ?_))).cell hbmg k0⟩) (fun hHeld => ?_)
    clear hOld hK K
    (try simp only [Act.put, List.setIfInBounds_toArray, List.set_cons_zero, List.set_cons_succ])
    refine wpAnyH_done (by kernel_rfl) ?_ _
    go_wp2_with fail
    go_roundw
    case rel => exact ⟨j + 1, by omega, by go_num, hid (by rw [HNx.out, HPu.out]; exact Ws.put (HW.out.of (by (show Ext _ _; repeat (first | with_reducible (refine Hid.out ?_; assumption) | with_reducible exact Ext.refl _ | with_reducible refine Ext.ext ?_ _ | with_reducible refine Ext.alloc ?_ _ | refine Ext.drew ?_ | refine Ext.drewN ?_ _ | exact Ext.refl _)))) (by rw [HLn.out]; omega) x1 x2 x3), hid ((((HG.out.trans (Grn.of_ext (by (show Ext _ _; repeat (first | with_reducible (refine Hid.out ?_; assumption) | with_reducible exact Ext.refl _ | with_reducible refine Ext.ext ?_ _ | with_reducible refine Ext.alloc ?_ _ | refine Ext.drew ?_ | refine Ext.drewN ?_ _ | exact Ext.refl _))))).setCell _ _).setCell _ _).setCell _ _)⟩
    case measure => simp [intOf]; omega
  have hdj : decide (j < ms.length) = false := decide_eq_false hjl
  obtain rfl : j = ms.length := by omega
  rw [List.take_length] at HW
  obtain ⟨L1, hL1⟩ : ∃ M, M = putF (logG (rlogF T B sl rm ws L)) L ms := ⟨_, rfl⟩
  rw [← hL1] at HW
  have HL1 := hid hL1.symm
  have HL1n := hid (show L1.length = N by rw [hL1, putF_len, HN.out])
  have HW1 := hid HW.out
  have HG1 := hid HG.out
  clear hL1 hj hjl HW HG
  go_wp2_with fail
  go_loopw [7] (fun i wr => ∃ j : Nat, j ≤ ss.length ∧ i = .int .i64 j ∧ Hid (Ws wr w.heap.size (.slice (some ⟨g, 0, none⟩) N c5) (putF (statG L) L1 (ss.take j))) ∧ Hid (Grn g X wr)) (fun i _ => ss.length - (intOf i).toNat)
  case atStart => exact ⟨0, by omega, rfl, hid (HW1.out.of (by (show Ext _ _; repeat (first | with_reducible (refine Hid.out ?_; assumption) | with_reducible exact Ext.refl _ | with_reducible refine Ext.ext ?_ _ | with_reducible refine Ext.alloc ?_ _ | refine Ext.drew ?_ | refine Ext.drewN ?_ _ | exact Ext.refl _)))), hid (HG1.out.trans (Grn.of_ext (by (show Ext _ _; repeat (first | with_reducible (refine Hid.out ?_; assumption) | with_reducible exact Ext.refl _ | with_reducible refine Ext.ext ?_ _ | with_reducible refine Ext.alloc ?_ _ | refine Ext.drew ?_ | refine Ext.drewN ?_ _ | exact Ext.refl _)))))⟩
  case round =>
  clear HW1 HG1 HEw HBw hgr d0 d1 d2 d3 d4 d5 d6 d7 d8 d9
  obtain ⟨j, hj, rfl, HW, HG⟩ := hrel
  have HEw := hid (HEX.out.grn HG.out hwg2)
  have HBw := hid (HBX.out.grn HG.out hwg)
  have hgr : g < wr.heap.size := Nat.lt_of_lt_of_le hgX HG.out.size
  have d9 := HBw.out.2.2 9 _ rfl
  have d10 := HBw.out.1
  by_cases hjl : j < ss.length
  · have hdj : decide (j < ss.length) = true := decide_eq_true hjl
    have hji : (j : Int) < (ss.length : Int) := by omega
    obtain ⟨p, hp⟩ : ∃ p, ss[j]? = some p := ⟨_, List.getElem?_eq_getElem hjl⟩
    have HNx := hid (putF_take (g := statG L) (L := L1) hp)
    obtain ⟨_, bm, om, hab, hbm, hcm⟩ := Sl.at (HSv.out.of locE_len HEw.out) hp
    have hbmg : bm ≠ g := by
      obtain ⟨_, b', o', hab', hb', _⟩ := Sl.at HSv.out hp
      rw [hab] at hab'
      cases hab'
      omega
    subst hab
    have k0 := hcm 0 (by omega)
    simp [locE] at k0
    have hpn := HSi.out j p hp
    rw [HN.out] at hpn
    have hlen : (putF (statG L) L1 (ss.take j)).length = N := by rw [putF_len, HL1n.out]
    obtain ⟨⟨y1, y2, y3⟩, hy⟩ : ∃ y, (putF (statG L) L1 (ss.take j))[p]? = some y := ⟨_, List.getElem?_eq_getElem (by rw [hlen]; omega)⟩
    obtain ⟨m0, m1, m2⟩ := Ws.cells HW.out hy
    have f0 := Ws.free HW.out (p * 3)
    have f1 := Ws.free HW.out (p * 3 + 1)
    have f2 := Ws.free HW.out (p * 3 + 2)
    have HLn := hid hlen
    obtain ⟨⟨x1, x2, x3⟩, hx⟩ : ∃ x, L[p]? = some x := ⟨_, List.getElem?_eq_getElem (by rw [HN.out]; omega)⟩
    obtain ⟨hq5, b5, o5, hab, hb5, hc5⟩ := Sl.at (HVk.out.of wdE_len HEw.out) hx
    cases hab
    clear hq5
    have q0 := hc5 0 (by omega)
    have q1 := hc5 1 (by omega)
    have q2 := hc5 2 (by omega)
    simp [wdE] at q0 q1 q2
    have t2 : (p : Int) < (N : Int) := by omega
    have hwn : b0 ≠ wr.heap.size := by omega
    have hgn : g ≠ wr.heap.size := by omega
    have HY := hid hy
    by_cases hu0 : x1 = 0
    · subst hu0
      have HPu := hid (statG_yes2 (M := putF (statG L) L1 (ss.take j)) hx rfl)
      clear hcm hy hlen hp hx hc5
      go_upto_region 11 with fail
      generalize hK : World.alloc _ _ = K2
      have HEK := hid (show Ext wr K2 by rw [← hK]; (show Ext _ _; repeat (first | with_reducible (refine Hid.out ?_; assumption) | with_reducible exact Ext.refl _ | with_reducible refine Ext.ext ?_ _ | with_reducible refine Ext.alloc ?_ _ | refine Ext.drew ?_ | refine Ext.drewN ?_ _ | exact Ext.refl _)))
      have HBk := hid (show Blk K2 wr.heap.size [.int .i64 0, .int .u32 x2, .int .u32 x3] by rw [← hK]; (show Blk _ _ _; repeat (first | with_reducible (refine Hid.out ?_; assumption) | with_reducible refine Blk.drew ?_ | with_reducible refine Blk.ext ?_ _ | (with_reducible refine Blk.new _ _ rfl ?_; first | with_reducible rfl | (simp; done)) | with_reducible refine Blk.alloc ?_ _ | with_reducible assumption | with_reducible apply Blk.setE | (with_reducible refine Blk.other' ?_ ?_; first | omega | (simp; omega)) | (show List.set _ _ _ = _; exact rfl) | (show _ < List.length _; simp; done))))
      have HWK := hid (HW.out.of HEK.out)
      have HGK := hid (HG.out.trans (Grn.of_ext HEK.out))
      have dd9 := HEK.out.cell d9
      have kk0 := HEK.out.cell k0
      obtain ⟨xx0, xx1, xx2⟩ := HBk.out.three
      obtain ⟨n0, n1, n2⟩ := HBk.out.three
      clear n0 n1 n2 m0 m1 m2 f0 f1 f2 q0 q1 q2 hK
      obtain ⟨m0, m1, m2⟩ := Ws.cells HWK.out HY.out
      have f0 := Ws.free HWK.out (p * 3)
      have f1 := Ws.free HWK.out (p * 3 + 1)
      have f2 := Ws.free HWK.out (p * 3 + 2)
      refine wp_region_held_drew (S := fun w' => (w'.cell? ⟨w.heap.size, 9, none⟩ = some (.slice (some ⟨bm, om, none⟩) ss.length sc) ∧ w'.cell? ⟨bm, om + j, none⟩ = some (.int .i64 p)) ∧ w'.cell? ⟨wr.heap.size, 1, none⟩ = some (.int .u32 x2)) (by kernel_rfl) (by exact ⟨⟨(show Grn g K2 _ from by (show Grn _ _ _; repeat (first | with_reducible exact Grn.refl | with_reducible refine Grn.setCell ?_ _ _ | with_reducible refine Grn.ext ?_ _ | with_reducible refine Grn.alloc ?_ _ | with_reducible refine Grn.drew ?_))).cell hwg dd9, (show Grn g K2 _ from by (show Grn _ _ _; repeat (first | with_reducible exact Grn.refl | with_reducible refine Grn.setCell ?_ _ _ | with_reducible refine Grn.ext ?_ _ | with_reducible refine Grn.alloc ?_ _ | with_reducible refine Grn.drew ?_))).cell hbmg kk0⟩, (show Grn g K2 _ from by (show Grn _ _ _; repeat (first | with_reducible exact Grn.refl | with_reducible refine Grn.setCell ?_ _ _ | with_reducible refine Grn.ext ?_ _ | with_reducible refine Grn.alloc ?_ _ | with_reducible refine Grn.drew ?_))).cell (Ne.symm hgn) xx1⟩) (fun hHeld => ?_)
      refine take_met 0 (oi := ⟨_, _, _, _, _, _⟩) (v := ?_) (by kernel_rfl) rfl (by rfl) (fun _ _ _ h => h) (by assumption) ?_ ?_
      rotate_left 1
      · intro w hSw
        try dsimp only at hSw
        go_simp
        try with_reducible rfl
      (try simp only [Act.put, List.setIfInBounds_toArray, List.set_cons_zero, List.set_cons_succ])
      refine take_met 1 (oi := ⟨_, _, _, _, _, _⟩) (v := ?_) (by kernel_rfl) rfl (by rfl) (fun _ _ _ h => h) (by assumption) ?_ ?_
      rotate_left 1
      · intro w hSw
        try dsimp only at hSw
        go_simp
        try with_reducible rfl
      (try simp only [Act.put, List.setIfInBounds_toArray, List.set_cons_zero, List.set_cons_succ])
      refine take_met 2 (oi := ⟨_, _, _, _, _, _⟩) (v := ?_) (by kernel_rfl) rfl (by rfl) (fun _ _ _ h => h) (by assumption) ?_ ?_
      rotate_left 1
      · intro w hSw
        try dsimp only at hSw
        go_simp
        try with_reducible rfl
      (try simp only [Act.put, List.setIfInBounds_toArray, List.set_cons_zero, List.set_cons_succ])
      refine take_met 3 (oi := ⟨_, _, _, _, _, _⟩) (v := ?_) (by kernel_rfl) rfl (by rfl) (fun _ _ _ h => h) (by assumption) ?_ ?_
      rotate_left 1
      · intro w hSw
        try dsimp only at hSw
        go_simp
        try with_reducible rfl
      (try simp only [Act.put, List.setIfInBounds_toArray, List.set_cons_zero, List.set_cons_succ])
      refine take_met 4 (oi := ⟨_, _, _, _, _, _⟩) (v := ?_) (by kernel_rfl) rfl (by rfl) (fun _ _ _ h => h) (by assumption) ?_ ?_
      rotate_left 1
      · intro w hSw
        try dsimp only at hSw
        go_simp
        try with_reducible rfl
      (try simp only [Act.put, List.setIfInBounds_toArray, List.set_cons_zero, List.set_cons_succ])
      refine take_met 5 (oi := ⟨_, _, _, _, _, _⟩) (v := ?_) (by kernel_rfl) rfl (by rfl) (fun _ _ _ h => h) (by assumption) ?_ ?_
      rotate_left 1
      · intro w hSw
        try dsimp only at hSw
        go_simp
        try with_reducible rfl
      (try simp only [Act.put, List.setIfInBounds_toArray, List.set_cons_zero, List.set_cons_succ])
      refine take_met 6 (oi := ⟨_, _, _, _, _, _⟩) (v := ?_) (by kernel_rfl) rfl (by rfl) (fun _ _ _ h => h) (by assumption) ?_ ?_
      rotate_left 1
      · intro w hSw
        try dsimp only at hSw
        go_simp
        try with_reducible rfl
      (try simp only [Act.put, List.setIfInBounds_toArray, List.set_cons_zero, List.set_cons_succ])
      refine take_met 7 (oi := ⟨_, _, _, _, _, _⟩) (v := ?_) (by kernel_rfl) rfl (by rfl) (fun _ _ _ h => h) (by assumption) ?_ ?_
      rotate_left 1
      · intro w hSw
        try dsimp only at hSw
        go_simp
        try with_reducible rfl
      (try simp only [Act.put, List.setIfInBounds_toArray, List.set_cons_zero, List.set_cons_succ])
      refine take_met 8 (oi := ⟨_, _, _, _, _, _⟩) (v := ?_) (by kernel_rfl) rfl (by rfl) (fun _ _ _ h => h) (by assumption) ?_ ?_
      rotate_left 1
      · intro w hSw
        try dsimp only at hSw
        go_simp
        try with_reducible rfl
      (try simp only [Act.put, List.setIfInBounds_toArray, List.set_cons_zero, List.set_cons_succ])
      refine take_met 9 (oi := ⟨_, _, _, _, _, _⟩) (v := ?_) (by kernel_rfl) rfl (by rfl) (fun _ _ _ h => h) (by assumption) ?_ ?_
      rotate_left 1
      · intro w hSw
        try dsimp only at hSw
        go_simp
        try with_reducible rfl
      (try simp only [Act.put, List.setIfInBounds_toArray, List.set_cons_zero, List.set_cons_succ])
      refine take_only 10 (oi := ⟨_, _, _, _, _, _⟩) (by kernel_rfl) rfl (fun K hK => ?_)
      go_simp
      have hOld := hHeld
      clear hHeld
      refine hK.out _ _ (by exact ⟨⟨(show Grn g K2 _ from by (show Grn _ _ _; repeat (first | with_reducible exact Grn.refl | with_reducible refine Grn.setCell ?_ _ _ | with_reducible refine Grn.ext ?_ _ | with_reducible refine Grn.alloc ?_ _ | with_reducible refine Grn.drew ?_))).cell hwg dd9, (show Grn g K2 _ from by (show Grn _ _ _; repeat (first | with_reducible exact Grn.refl | with_reducible refine Grn.setCell ?_ _ _ | with_reducible refine Grn.ext ?_ _ | with_reducible refine Grn.alloc ?_ _ | with_reducible refine Grn.drew ?_))).cell hbmg kk0⟩, (show Grn g K2 _ from by (show Grn _ _ _; repeat (first | with_reducible exact Grn.refl | with_reducible refine Grn.setCell ?_ _ _ | with_reducible refine Grn.ext ?_ _ | with_reducible refine Grn.alloc ?_ _ | with_reducible refine Grn.drew ?_))).cell (Ne.symm hgn) xx1⟩) (fun hHeld => ?_)
      clear hOld hK K
      (try simp only [Act.put, List.setIfInBounds_toArray, List.set_cons_zero, List.set_cons_succ])
      refine wpAnyH_done (by kernel_rfl) ?_ _
      go_wp2_with fail
      go_roundw
      case rel => exact ⟨j + 1, by omega, by go_num, hid (by rw [HNx.out, HPu.out]; exact (Ws.put HWK.out (by rw [HLn.out]; omega) 2 x2 0).of (by (show Ext _ _; repeat (first | with_reducible (refine Hid.out ?_; assumption) | with_reducible exact Ext.refl _ | with_reducible refine Ext.ext ?_ _ | with_reducible refine Ext.alloc ?_ _ | refine Ext.drew ?_ | refine Ext.drewN ?_ _ | exact Ext.refl _)))), hid ((((HGK.out.setCell _ _).setCell _ _).setCell _ _).trans (Grn.of_ext (by (show Ext _ _; repeat (first | with_reducible (refine Hid.out ?_; assumption) | with_reducible exact Ext.refl _ | with_reducible refine Ext.ext ?_ _ | with_reducible refine Ext.alloc ?_ _ | refine Ext.drew ?_ | refine Ext.drewN ?_ _ | exact Ext.refl _)))))⟩
      case measure => simp [intOf]; omega
    · have e0 : (x1 == 0) = false := by simpa using hu0
      have hd0 : decide (x1 = 0) = false := decide_eq_false hu0
      by_cases hu3 : x1 = 3
      · subst hu3
        have HPu := hid (statG_yes2 (M := putF (statG L) L1 (ss.take j)) hx rfl)
        clear hcm hy hlen hp hx hc5
        go_upto_region 11 with fail
        generalize hK : World.alloc _ _ = K2
        have HEK := hid (show Ext wr K2 by rw [← hK]; (show Ext _ _; repeat (first | with_reducible (refine Hid.out ?_; assumption) | with_reducible exact Ext.refl _ | with_reducible refine Ext.ext ?_ _ | with_reducible refine Ext.alloc ?_ _ | refine Ext.drew ?_ | refine Ext.drewN ?_ _ | exact Ext.refl _)))
        have HBk := hid (show Blk K2 wr.heap.size [.int .i64 3, .int .u32 x2, .int .u32 x3] by rw [← hK]; (show Blk _ _ _; repeat (first | with_reducible (refine Hid.out ?_; assumption) | with_reducible refine Blk.drew ?_ | with_reducible refine Blk.ext ?_ _ | (with_reducible refine Blk.new _ _ rfl ?_; first | with_reducible rfl | (simp; done)) | with_reducible refine Blk.alloc ?_ _ | with_reducible assumption | with_reducible apply Blk.setE | (with_reducible refine Blk.other' ?_ ?_; first | omega | (simp; omega)) | (show List.set _ _ _ = _; exact rfl) | (show _ < List.length _; simp; done))))
        have HWK := hid (HW.out.of HEK.out)
        have HGK := hid (HG.out.trans (Grn.of_ext HEK.out))
        have dd9 := HEK.out.cell d9
        have kk0 := HEK.out.cell k0
        obtain ⟨xx0, xx1, xx2⟩ := HBk.out.three
        obtain ⟨n0, n1, n2⟩ := HBk.out.three
        clear n0 n1 n2 m0 m1 m2 f0 f1 f2 q0 q1 q2 hK
        obtain ⟨m0, m1, m2⟩ := Ws.cells HWK.out HY.out
        have f0 := Ws.free HWK.out (p * 3)
        have f1 := Ws.free HWK.out (p * 3 + 1)
        have f2 := Ws.free HWK.out (p * 3 + 2)
        refine wp_region_held_drew (S := fun w' => (w'.cell? ⟨w.heap.size, 9, none⟩ = some (.slice (some ⟨bm, om, none⟩) ss.length sc) ∧ w'.cell? ⟨bm, om + j, none⟩ = some (.int .i64 p)) ∧ w'.cell? ⟨wr.heap.size, 1, none⟩ = some (.int .u32 x2)) (by kernel_rfl) (by exact ⟨⟨(show Grn g K2 _ from by (show Grn _ _ _; repeat (first | with_reducible exact Grn.refl | with_reducible refine Grn.setCell ?_ _ _ | with_reducible refine Grn.ext ?_ _ | with_reducible refine Grn.alloc ?_ _ | with_reducible refine Grn.drew ?_))).cell hwg dd9, (show Grn g K2 _ from by (show Grn _ _ _; repeat (first | with_reducible exact Grn.refl | with_reducible refine Grn.setCell ?_ _ _ | with_reducible refine Grn.ext ?_ _ | with_reducible refine Grn.alloc ?_ _ | with_reducible refine Grn.drew ?_))).cell hbmg kk0⟩, (show Grn g K2 _ from by (show Grn _ _ _; repeat (first | with_reducible exact Grn.refl | with_reducible refine Grn.setCell ?_ _ _ | with_reducible refine Grn.ext ?_ _ | with_reducible refine Grn.alloc ?_ _ | with_reducible refine Grn.drew ?_))).cell (Ne.symm hgn) xx1⟩) (fun hHeld => ?_)
        refine take_met 0 (oi := ⟨_, _, _, _, _, _⟩) (v := ?_) (by kernel_rfl) rfl (by rfl) (fun _ _ _ h => h) (by assumption) ?_ ?_
        rotate_left 1
        · intro w hSw
          try dsimp only at hSw
          go_simp
          try with_reducible rfl
        (try simp only [Act.put, List.setIfInBounds_toArray, List.set_cons_zero, List.set_cons_succ])
        refine take_met 1 (oi := ⟨_, _, _, _, _, _⟩) (v := ?_) (by kernel_rfl) rfl (by rfl) (fun _ _ _ h => h) (by assumption) ?_ ?_
        rotate_left 1
        · intro w hSw
          try dsimp only at hSw
          go_simp
          try with_reducible rfl
        (try simp only [Act.put, List.setIfInBounds_toArray, List.set_cons_zero, List.set_cons_succ])
        refine take_met 2 (oi := ⟨_, _, _, _, _, _⟩) (v := ?_) (by kernel_rfl) rfl (by rfl) (fun _ _ _ h => h) (by assumption) ?_ ?_
        rotate_left 1
        · intro w hSw
          try dsimp only at hSw
          go_simp
          try with_reducible rfl
        (try simp only [Act.put, List.setIfInBounds_toArray, List.set_cons_zero, List.set_cons_succ])
        refine take_met 3 (oi := ⟨_, _, _, _, _, _⟩) (v := ?_) (by kernel_rfl) rfl (by rfl) (fun _ _ _ h => h) (by assumption) ?_ ?_
        rotate_left 1
        · intro w hSw
          try dsimp only at hSw
          go_simp
          try with_reducible rfl
        (try simp only [Act.put, List.setIfInBounds_toArray, List.set_cons_zero, List.set_cons_succ])
        refine take_met 4 (oi := ⟨_, _, _, _, _, _⟩) (v := ?_) (by kernel_rfl) rfl (by rfl) (fun _ _ _ h => h) (by assumption) ?_ ?_
        rotate_left 1
        · intro w hSw
          try dsimp only at hSw
          go_simp
          try with_reducible rfl
        (try simp only [Act.put, List.setIfInBounds_toArray, List.set_cons_zero, List.set_cons_succ])
        refine take_met 5 (oi := ⟨_, _, _, _, _, _⟩) (v := ?_) (by kernel_rfl) rfl (by rfl) (fun _ _ _ h => h) (by assumption) ?_ ?_
        rotate_left 1
        · intro w hSw
          try dsimp only at hSw
          go_simp
          try with_reducible rfl
        (try simp only [Act.put, List.setIfInBounds_toArray, List.set_cons_zero, List.set_cons_succ])
        refine take_met 6 (oi := ⟨_, _, _, _, _, _⟩) (v := ?_) (by kernel_rfl) rfl (by rfl) (fun _ _ _ h => h) (by assumption) ?_ ?_
        rotate_left 1
        · intro w hSw
          try dsimp only at hSw
          go_simp
          try with_reducible rfl
        (try simp only [Act.put, List.setIfInBounds_toArray, List.set_cons_zero, List.set_cons_succ])
        refine take_met 7 (oi := ⟨_, _, _, _, _, _⟩) (v := ?_) (by kernel_rfl) rfl (by rfl) (fun _ _ _ h => h) (by assumption) ?_ ?_
        rotate_left 1
        · intro w hSw
          try dsimp only at hSw
          go_simp
          try with_reducible rfl
        (try simp only [Act.put, List.setIfInBounds_toArray, List.set_cons_zero, List.set_cons_succ])
        refine take_met 8 (oi := ⟨_, _, _, _, _, _⟩) (v := ?_) (by kernel_rfl) rfl (by rfl) (fun _ _ _ h => h) (by assumption) ?_ ?_
        rotate_left 1
        · intro w hSw
          try dsimp only at hSw
          go_simp
          try with_reducible rfl
        (try simp only [Act.put, List.setIfInBounds_toArray, List.set_cons_zero, List.set_cons_succ])
        refine take_met 9 (oi := ⟨_, _, _, _, _, _⟩) (v := ?_) (by kernel_rfl) rfl (by rfl) (fun _ _ _ h => h) (by assumption) ?_ ?_
        rotate_left 1
        · intro w hSw
          try dsimp only at hSw
          go_simp
          try with_reducible rfl
        (try simp only [Act.put, List.setIfInBounds_toArray, List.set_cons_zero, List.set_cons_succ])
        refine take_only 10 (oi := ⟨_, _, _, _, _, _⟩) (by kernel_rfl) rfl (fun K hK => ?_)
        go_simp
        have hOld := hHeld
        clear hHeld
        refine hK.out _ _ (by exact ⟨⟨(show Grn g K2 _ from by (show Grn _ _ _; repeat (first | with_reducible exact Grn.refl | with_reducible refine Grn.setCell ?_ _ _ | with_reducible refine Grn.ext ?_ _ | with_reducible refine Grn.alloc ?_ _ | with_reducible refine Grn.drew ?_))).cell hwg dd9, (show Grn g K2 _ from by (show Grn _ _ _; repeat (first | with_reducible exact Grn.refl | with_reducible refine Grn.setCell ?_ _ _ | with_reducible refine Grn.ext ?_ _ | with_reducible refine Grn.alloc ?_ _ | with_reducible refine Grn.drew ?_))).cell hbmg kk0⟩, (show Grn g K2 _ from by (show Grn _ _ _; repeat (first | with_reducible exact Grn.refl | with_reducible refine Grn.setCell ?_ _ _ | with_reducible refine Grn.ext ?_ _ | with_reducible refine Grn.alloc ?_ _ | with_reducible refine Grn.drew ?_))).cell (Ne.symm hgn) xx1⟩) (fun hHeld => ?_)
        clear hOld hK K
        (try simp only [Act.put, List.setIfInBounds_toArray, List.set_cons_zero, List.set_cons_succ])
        refine wpAnyH_done (by kernel_rfl) ?_ _
        go_wp2_with fail
        go_roundw
        case rel => exact ⟨j + 1, by omega, by go_num, hid (by rw [HNx.out, HPu.out]; exact (Ws.put HWK.out (by rw [HLn.out]; omega) 2 x2 0).of (by (show Ext _ _; repeat (first | with_reducible (refine Hid.out ?_; assumption) | with_reducible exact Ext.refl _ | with_reducible refine Ext.ext ?_ _ | with_reducible refine Ext.alloc ?_ _ | refine Ext.drew ?_ | refine Ext.drewN ?_ _ | exact Ext.refl _)))), hid ((((HGK.out.setCell _ _).setCell _ _).setCell _ _).trans (Grn.of_ext (by (show Ext _ _; repeat (first | with_reducible (refine Hid.out ?_; assumption) | with_reducible exact Ext.refl _ | with_reducible refine Ext.ext ?_ _ | with_reducible refine Ext.alloc ?_ _ | refine Ext.drew ?_ | refine Ext.drewN ?_ _ | exact Ext.refl _)))))⟩
        case measure => simp [intOf]; omega
      · have e3 : (x1 == 3) = false := by simpa using hu3
        have hd3 : decide (x1 = 3) = false := decide_eq_false hu3
        have HPu := hid (statG_no2 (M := putF (statG L) L1 (ss.take j)) hx (by unfold undB; rw [hd0, hd3]; rfl))
        clear hcm hy hlen hp hx hc5
        go_wp2_with fail
        go_roundw
        case rel => exact ⟨j + 1, by omega, by go_num, hid (by rw [HNx.out, HPu.out]; exact HW.out.of (by (show Ext _ _; repeat (first | with_reducible (refine Hid.out ?_; assumption) | with_reducible exact Ext.refl _ | with_reducible refine Ext.ext ?_ _ | with_reducible refine Ext.alloc ?_ _ | refine Ext.drew ?_ | refine Ext.drewN ?_ _ | exact Ext.refl _)))), hid (HG.out.trans (Grn.of_ext (by (show Ext _ _; repeat (first | with_reducible (refine Hid.out ?_; assumption) | with_reducible exact Ext.refl _ | with_reducible refine Ext.ext ?_ _ | with_reducible refine Ext.alloc ?_ _ | refine Ext.drew ?_ | refine Ext.drewN ?_ _ | exact Ext.refl _)))))⟩
        case measure => simp [intOf]; omega
  have hdj : decide (j < ss.length) = false := decide_eq_false hjl
  obtain rfl : j = ss.length := by omega
  rw [List.take_length] at HW
  obtain ⟨L2, hL2⟩ : ∃ M, M = putF (statG L) L1 ss := ⟨_, rfl⟩
  rw [← hL2] at HW
  have HL2 := hid hL2.symm
  have HL2n := hid (show L2.length = N by rw [hL2, putF_len, HL1n.out])
  have HW2 := hid HW.out
  have HG2 := hid HG.out
  clear hL2 hj hjl HW HG
  go_wp2_with fail
  go_loopw [9] (fun i wr => ∃ j : Nat, j ≤ os.length ∧ i = .int .i64 j ∧ Hid (Ws wr w.heap.size (.slice (some ⟨g, 0, none⟩) N c5) (putF zeroG L2 (os.take j))) ∧ Hid (Grn g X wr)) (fun i _ => os.length - (intOf i).toNat)
  case atStart => exact ⟨0, by omega, rfl, hid (HW2.out.of (by (show Ext _ _; repeat (first | with_reducible (refine Hid.out ?_; assumption) | with_reducible exact Ext.refl _ | with_reducible refine Ext.ext ?_ _ | with_reducible refine Ext.alloc ?_ _ | refine Ext.drew ?_ | refine Ext.drewN ?_ _ | exact Ext.refl _)))), hid (HG2.out.trans (Grn.of_ext (by (show Ext _ _; repeat (first | with_reducible (refine Hid.out ?_; assumption) | with_reducible exact Ext.refl _ | with_reducible refine Ext.ext ?_ _ | with_reducible refine Ext.alloc ?_ _ | refine Ext.drew ?_ | refine Ext.drewN ?_ _ | exact Ext.refl _)))))⟩
  case round =>
  clear HW2 HG2 HEw HBw hgr d9 d10
  obtain ⟨j, hj, rfl, HW, HG⟩ := hrel
  have HEw := hid (HEX.out.grn HG.out hwg2)
  have HBw := hid (HBX.out.grn HG.out hwg)
  have hgr : g < wr.heap.size := Nat.lt_of_lt_of_le hgX HG.out.size
  have d10 := HBw.out.2.2 10 _ rfl
  have d9 := HBw.out.1
  by_cases hjl : j < os.length
  · have hdj : decide (j < os.length) = true := decide_eq_true hjl
    have hji : (j : Int) < (os.length : Int) := by omega
    obtain ⟨p, hp⟩ : ∃ p, os[j]? = some p := ⟨_, List.getElem?_eq_getElem hjl⟩
    have HNx := hid (putF_take (g := zeroG) (L := L2) hp)
    obtain ⟨_, bm, om, hab, hbm, hcm⟩ := Sl.at (HOv.out.of locE_len HEw.out) hp
    have hbmg : bm ≠ g := by
      obtain ⟨_, b', o', hab', hb', _⟩ := Sl.at HOv.out hp
      rw [hab] at hab'
      cases hab'
      omega
    subst hab
    have k0 := hcm 0 (by omega)
    simp [locE] at k0
    have hpn := HOi.out j p hp
    rw [HN.out] at hpn
    have hlen : (putF zeroG L2 (os.take j)).length = N := by rw [putF_len, HL2n.out]
    obtain ⟨⟨y1, y2, y3⟩, hy⟩ : ∃ y, (putF zeroG L2 (os.take j))[p]? = some y := ⟨_, List.getElem?_eq_getElem (by rw [hlen]; omega)⟩
    obtain ⟨m0, m1, m2⟩ := Ws.cells HW.out hy
    have f0 := Ws.free HW.out (p * 3)
    have f1 := Ws.free HW.out (p * 3 + 1)
    have f2 := Ws.free HW.out (p * 3 + 2)
    have HLn := hid hlen
    have t2 : (p : Int) < (N : Int) := by omega
    clear hcm hy hlen hp
    go_wp2_with fail
    go_roundw
    case rel => exact ⟨j + 1, by omega, by go_num, hid (by rw [HNx.out, zeroG_put2]; exact Ws.put (HW.out.of (by (show Ext _ _; repeat (first | with_reducible (refine Hid.out ?_; assumption) | with_reducible exact Ext.refl _ | with_reducible refine Ext.ext ?_ _ | with_reducible refine Ext.alloc ?_ _ | refine Ext.drew ?_ | refine Ext.drewN ?_ _ | exact Ext.refl _)))) (by rw [HLn.out]; omega) 0 0 0), hid ((((HG.out.trans (Grn.of_ext (by (show Ext _ _; repeat (first | with_reducible (refine Hid.out ?_; assumption) | with_reducible exact Ext.refl _ | with_reducible refine Ext.ext ?_ _ | with_reducible refine Ext.alloc ?_ _ | refine Ext.drew ?_ | refine Ext.drewN ?_ _ | exact Ext.refl _))))).setCell _ _).setCell _ _).setCell _ _)⟩
    case measure => simp [intOf]; omega
  have hdj : decide (j < os.length) = false := decide_eq_false hjl
  obtain rfl : j = os.length := by omega
  rw [List.take_length] at HW
  have HRes := hid (show putF zeroG L2 os = redoW (rlogF T B sl rm ws L) L ms ss os by unfold redoW; rw [← HL2.out, ← HL1.out])
  clear hj hjl HNil
  go_wp2_with fail
  go_ret
  refine ⟨_, rfl, HEw.out.trans (by (show Ext _ _; repeat (first | with_reducible (refine Hid.out ?_; assumption) | with_reducible exact Ext.refl _ | with_reducible refine Ext.ext ?_ _ | with_reducible refine Ext.alloc ?_ _ | refine Ext.drew ?_ | refine Ext.drewN ?_ _ | exact Ext.refl _))), ?_⟩
  rw [← HRes.out]
  exact HW.out.of (by (show Ext _ _; repeat (first | with_reducible (refine Hid.out ?_; assumption) | with_reducible exact Ext.refl _ | with_reducible refine Ext.ext ?_ _ | with_reducible refine Ext.alloc ?_ _ | refine Ext.drew ?_ | refine Ext.drewN ?_ _ | exact Ext.refl _)))

end Go.Proofs.YtfijnpfhffhffaaDoor

namespace Go.Proofs.YtfijnpfhffhffaaDoor
set_option linter.unusedSimpArgs false
set_option linter.unusedVariables false
open Go.RowKit

/-- Plain: what the three loops of Clean ask of a place. -/
def qs1 (L : List Wd) (p : Nat) : Bool := match L[p]? with | some x => decide (x.2.2 = 0) | none => true
def qs2 (L : List Wd) (p : Nat) : Bool := match L[p]? with | some x => !undB x | none => true
def qs3 (L : List Wd) (p : Nat) : Bool := match L[p]? with | some x => wdB x (0, 0, 0) | none => true
theorem cleanW_all (L : List Wd) (ms ss os : List Nat) : cleanW L ms ss os = (ms.all (qs1 L) && (ss.all (qs2 L) && os.all (qs3 L))) := rfl
theorem all_take {l : List Nat} {q : Nat → Bool} {j p : Nat} (h : l[j]? = some p) (hq : q p = true) (ha : (l.take j).all q = true) : (l.take (j + 1)).all q = true := by
  obtain ⟨h1, h2⟩ := List.getElem?_eq_some_iff.1 h
  rw [List.take_succ_eq_append_getElem h1, h2, List.all_append, ha]; simp [hq]
theorem all_not {l : List Nat} {q : Nat → Bool} {j p : Nat} (h : l[j]? = some p) (hq : q p = false) : l.all q = false := by
  cases ha : l.all q
  · rfl
  · rw [List.all_eq_true] at ha
    rw [ha p (List.mem_of_getElem? h)] at hq; cases hq

set_option maxRecDepth 100000 in
set_option maxHeartbeats 4000000 in
theorem refclean_any (T B sl rm sz : Int) (ws : List Bool) (pv mv sv ov : Value) (L : List Wd) (lv : Value) (hll : L.length ≤ 10000)
    (ms ss os : List Nat) (hms : ∀ (j p : Nat), ms[j]? = some p → p < L.length) (hss : ∀ (j p : Nat), ss[j]? = some p → p < L.length) (hos : ∀ (j p : Nat), os[j]? = some p → p < L.length) (lm : ms.length ≤ 10000) (ls : ss.length ≤ 10000) (lo : os.length ≤ 10000)
    (w : World) (hp : Sl w 1 boE pv ws) (hm : Sl w 1 locE mv ms) (hs : Sl w 1 locE sv ss) (ho : Sl w 1 locE ov os) (hv : Sl w 3 wdE lv L) :
    Calls Tryd.prog 14 #[.agg #[.int .i64 T, .int .i64 B, .int .i64 sl, .int .i64 rm, .int .i64 104, .int .i64 32, pv, .int .i64 sz, mv, sv, ov], lv] w
      fun y w' => y = .returned (.bool (cleanW L ms ss os)) ∧ ∃ r, w' = ext w r := by
  have HMv := hid hm
  have HSv := hid hs
  have HOv := hid ho
  have HV := hid hv
  have HMi := hid hms
  have HSi := hid hss
  have HOi := hid hos
  have HC := hid (cleanW_all L ms ss os)
  obtain ⟨pa, pc, rfl, hq, hq2⟩ := hp
  clear hq hq2
  obtain ⟨ma, mc, rfl, hq, hq2⟩ := hm
  clear hq hq2
  obtain ⟨sa, sc, rfl, hq, hq2⟩ := hs
  clear hq hq2
  obtain ⟨oa, oc, rfl, hq, hq2⟩ := ho
  clear hq hq2
  obtain ⟨a, cp, rfl, hq, hq2⟩ := hv
  clear hq hq2 hms hss hos
  obtain ⟨N, hN⟩ : ∃ N, N = L.length := ⟨_, rfl⟩
  rw [← hN] at HV hll ⊢
  have HN := hid hN.symm
  clear hN
  go_enter Tryd.func14, Tryd.ntmps14
  go_upto_region 1 with fail
  generalize hU : World.alloc _ _ = U
  have HEU := hid (show Ext w U by rw [← hU]; (show Ext _ _; repeat (first | with_reducible (refine Hid.out ?_; assumption) | with_reducible exact Ext.refl _ | with_reducible refine Ext.ext ?_ _ | with_reducible refine Ext.alloc ?_ _ | refine Ext.drew ?_ | refine Ext.drewN ?_ _ | exact Ext.refl _)))
  have HBk := hid (show Blk U w.heap.size [.int .i64 T, .int .i64 B, .int .i64 sl, .int .i64 rm, .int .i64 104, .int .i64 32, .slice pa ws.length pc, .int .i64 sz, .slice ma ms.length mc, .slice sa ss.length sc, .slice oa os.length oc] by rw [← hU]; (show Blk _ _ _; repeat (first | with_reducible (refine Hid.out ?_; assumption) | with_reducible refine Blk.drew ?_ | with_reducible refine Blk.ext ?_ _ | (with_reducible refine Blk.new _ _ rfl ?_; first | with_reducible rfl | (simp; done)) | with_reducible refine Blk.alloc ?_ _ | with_reducible assumption | with_reducible apply Blk.setE | (with_reducible refine Blk.other' ?_ ?_; first | omega | (simp; omega)) | (show List.set _ _ _ = _; exact rfl) | (show _ < List.length _; simp; done))))
  clear hU
  go_wp2_with fail
  go_loopw [5] (fun i wr => ∃ j : Nat, j ≤ ms.length ∧ i = .int .i64 j ∧ Hid ((ms.take j).all (qs1 L) = true) ∧ Hid (Ext U wr)) (fun i _ => ms.length - (intOf i).toNat)
  case atStart => exact ⟨0, by omega, rfl, hid rfl, hid (Ext.refl _)⟩
  case round =>
  obtain ⟨j, hj, rfl, HA, HX⟩ := hrel
  have HXw := hid (HEU.out.trans HX.out)
  have d0 := (HBk.out.of HX.out).2.2 8 _ rfl
  have d1 := (HBk.out.of HX.out).1
  by_cases hjl : j < ms.length
  · have hdj : decide (j < ms.length) = true := decide_eq_true hjl
    have hji : (j : Int) < (ms.length : Int) := by omega
    obtain ⟨p, hp⟩ : ∃ p, ms[j]? = some p := ⟨_, List.getElem?_eq_getElem hjl⟩
    have HP := hid hp
    obtain ⟨_, bm, om, hab, hbm, hcm⟩ := Sl.at (HMv.out.of locE_len HXw.out) hp
    subst hab
    have k0 := hcm 0 (by omega)
    simp [locE] at k0
    have hpn := HMi.out j p hp
    rw [HN.out] at hpn
    obtain ⟨⟨x1, x2, x3⟩, hx⟩ : ∃ x, L[p]? = some x := ⟨_, List.getElem?_eq_getElem (by rw [HN.out]; omega)⟩
    obtain ⟨hq5, b5, o5, hab, hb5, hc5⟩ := Sl.at (HV.out.of wdE_len HXw.out) hx
    subst hab
    clear hq5
    have q0 := hc5 0 (by omega)
    have q1 := hc5 1 (by omega)
    have q2 := hc5 2 (by omega)
    simp [wdE] at q0 q1 q2
    have t2 : (p : Int) < (N : Int) := by omega
    by_cases hu : x3 = 0
    · have HQ := hid (show qs1 L p = true by unfold qs1; rw [hx]; exact decide_eq_true hu)
      have e0 : (x3 != 0) = false := by simpa using hu
      clear hcm hp hx hc5
      go_wp2_with fail
      go_roundw
      case rel => exact ⟨j + 1, by omega, by go_num, hid (all_take HP.out HQ.out HA.out), hid (HX.out.trans (by (show Ext _ _; repeat (first | with_reducible (refine Hid.out ?_; assumption) | with_reducible exact Ext.refl _ | with_reducible refine Ext.ext ?_ _ | with_reducible refine Ext.alloc ?_ _ | refine Ext.drew ?_ | refine Ext.drewN ?_ _ | exact Ext.refl _))))⟩
      case measure => simp [intOf]; omega
    · have HQ := hid (show qs1 L p = false by unfold qs1; rw [hx]; exact decide_eq_false hu)
      have e0 : (x3 != 0) = true := by simpa using hu
      clear hcm hp hx hc5
      go_wp2_with fail
      go_ret
      exact ⟨ret_bool (by rw [HC.out, all_not HP.out HQ.out]; simp), HXw.out.trans (by (show Ext _ _; repeat (first | with_reducible (refine Hid.out ?_; assumption) | with_reducible exact Ext.refl _ | with_reducible refine Ext.ext ?_ _ | with_reducible refine Ext.alloc ?_ _ | refine Ext.drew ?_ | refine Ext.drewN ?_ _ | exact Ext.refl _)))⟩
  have hdj : decide (j < ms.length) = false := decide_eq_false hjl
  obtain rfl : j = ms.length := by omega
  rw [List.take_length] at HA
  have HA1 := hid HA.out
  have HX1 := hid HX.out
  clear HA
  go_wp2_with fail
  clear HX HXw d0 d1 hj hjl hdj
  go_loopw [6] (fun i wr => ∃ j : Nat, j ≤ ss.length ∧ i = .int .i64 j ∧ Hid ((ss.take j).all (qs2 L) = true) ∧ Hid (Ext U wr)) (fun i _ => ss.length - (intOf i).toNat)
  case atStart => exact ⟨0, by omega, rfl, hid rfl, hid (HX1.out.trans (by (show Ext _ _; repeat (first | with_reducible (refine Hid.out ?_; assumption) | with_reducible exact Ext.refl _ | with_reducible refine Ext.ext ?_ _ | with_reducible refine Ext.alloc ?_ _ | refine Ext.drew ?_ | refine Ext.drewN ?_ _ | exact Ext.refl _))))⟩
  case round =>
  clear HX1
  obtain ⟨j, hj, rfl, HA, HX⟩ := hrel
  have HXw := hid (HEU.out.trans HX.out)
  have d0 := (HBk.out.of HX.out).2.2 9 _ rfl
  have d1 := (HBk.out.of HX.out).1
  by_cases hjl : j < ss.length
  · have hdj : decide (j < ss.length) = true := decide_eq_true hjl
    have hji : (j : Int) < (ss.length : Int) := by omega
    obtain ⟨p, hp⟩ : ∃ p, ss[j]? = some p := ⟨_, List.getElem?_eq_getElem hjl⟩
    have HP := hid hp
    obtain ⟨_, bm, om, hab, hbm, hcm⟩ := Sl.at (HSv.out.of locE_len HXw.out) hp
    subst hab
    have k0 := hcm 0 (by omega)
    simp [locE] at k0
    have hpn := HSi.out j p hp
    rw [HN.out] at hpn
    obtain ⟨⟨x1, x2, x3⟩, hx⟩ : ∃ x, L[p]? = some x := ⟨_, List.getElem?_eq_getElem (by rw [HN.out]; omega)⟩
    obtain ⟨hq5, b5, o5, hab, hb5, hc5⟩ := Sl.at (HV.out.of wdE_len HXw.out) hx
    subst hab
    clear hq5
    have q0 := hc5 0 (by omega)
    have q1 := hc5 1 (by omega)
    have q2 := hc5 2 (by omega)
    simp [wdE] at q0 q1 q2
    have t2 : (p : Int) < (N : Int) := by omega
    by_cases hu : x1 = 0
    · have HQ := hid (show qs2 L p = false by unfold qs2; rw [hx]; unfold undB; dsimp only; rw [decide_eq_true hu]; rfl)
      have e0 : (x1 == 0) = true := by simpa using hu
      clear hcm hp hx hc5
      go_wp2_with fail
      go_ret
      exact ⟨ret_bool (by rw [HC.out, HA1.out, all_not HP.out HQ.out]; simp), HXw.out.trans (by (show Ext _ _; repeat (first | with_reducible (refine Hid.out ?_; assumption) | with_reducible exact Ext.refl _ | with_reducible refine Ext.ext ?_ _ | with_reducible refine Ext.alloc ?_ _ | refine Ext.drew ?_ | refine Ext.drewN ?_ _ | exact Ext.refl _)))⟩
    by_cases hu3 : x1 = 3
    · have HQ := hid (show qs2 L p = false by unfold qs2; rw [hx]; unfold undB; dsimp only; rw [decide_eq_true hu3]; simp)
      have e0 : (x1 == 0) = false := by simpa using hu
      have e3 : (x1 == 3) = true := by simpa using hu3
      clear hcm hp hx hc5
      go_wp2_with fail
      go_ret
      exact ⟨ret_bool (by rw [HC.out, HA1.out, all_not HP.out HQ.out]; simp), HXw.out.trans (by (show Ext _ _; repeat (first | with_reducible (refine Hid.out ?_; assumption) | with_reducible exact Ext.refl _ | with_reducible refine Ext.ext ?_ _ | with_reducible refine Ext.alloc ?_ _ | refine Ext.drew ?_ | refine Ext.drewN ?_ _ | exact Ext.refl _)))⟩
    · have HQ := hid (show qs2 L p = true by unfold qs2; rw [hx]; unfold undB; dsimp only; rw [decide_eq_false hu, decide_eq_false hu3]; rfl)
      have e0 : (x1 == 0) = false := by simpa using hu
      have e3 : (x1 == 3) = false := by simpa using hu3
      clear hcm hp hx hc5
      go_wp2_with fail
      go_roundw
      case rel => exact ⟨j + 1, by omega, by go_num, hid (all_take HP.out HQ.out HA.out), hid (HX.out.trans (by (show Ext _ _; repeat (first | with_reducible (refine Hid.out ?_; assumption) | with_reducible exact Ext.refl _ | with_reducible refine Ext.ext ?_ _ | with_reducible refine Ext.alloc ?_ _ | refine Ext.drew ?_ | refine Ext.drewN ?_ _ | exact Ext.refl _))))⟩
      case measure => simp [intOf]; omega
  have hdj : decide (j < ss.length) = false := decide_eq_false hjl
  obtain rfl : j = ss.length := by omega
  rw [List.take_length] at HA
  have HA2 := hid HA.out
  have HX2 := hid HX.out
  clear HA
  go_wp2_with fail
  clear HX HXw d0 d1 hj hjl hdj
  go_loopw [7] (fun i wr => ∃ j : Nat, j ≤ os.length ∧ i = .int .i64 j ∧ Hid ((os.take j).all (qs3 L) = true) ∧ Hid (Ext U wr)) (fun i _ => os.length - (intOf i).toNat)
  case atStart => exact ⟨0, by omega, rfl, hid rfl, hid (HX2.out.trans (by (show Ext _ _; repeat (first | with_reducible (refine Hid.out ?_; assumption) | with_reducible exact Ext.refl _ | with_reducible refine Ext.ext ?_ _ | with_reducible refine Ext.alloc ?_ _ | refine Ext.drew ?_ | refine Ext.drewN ?_ _ | exact Ext.refl _))))⟩
  case round =>
  clear HX2
  obtain ⟨j, hj, rfl, HA, HX⟩ := hrel
  have HXw := hid (HEU.out.trans HX.out)
  have d0 := (HBk.out.of HX.out).2.2 10 _ rfl
  have d1 := (HBk.out.of HX.out).1
  by_cases hjl : j < os.length
  · have hdj : decide (j < os.length) = true := decide_eq_true hjl
    have hji : (j : Int) < (os.length : Int) := by omega
    obtain ⟨p, hp⟩ : ∃ p, os[j]? = some p := ⟨_, List.getElem?_eq_getElem hjl⟩
    have HP := hid hp
    obtain ⟨_, bm, om, hab, hbm, hcm⟩ := Sl.at (HOv.out.of locE_len HXw.out) hp
    subst hab
    have k0 := hcm 0 (by omega)
    simp [locE] at k0
    have hpn := HOi.out j p hp
    rw [HN.out] at hpn
    obtain ⟨⟨x1, x2, x3⟩, hx⟩ : ∃ x, L[p]? = some x := ⟨_, List.getElem?_eq_getElem (by rw [HN.out]; omega)⟩
    obtain ⟨hq5, b5, o5, hab, hb5, hc5⟩ := Sl.at (HV.out.of wdE_len HXw.out) hx
    subst hab
    clear hq5
    have q0 := hc5 0 (by omega)
    have q1 := hc5 1 (by omega)
    have q2 := hc5 2 (by omega)
    simp [wdE] at q0 q1 q2
    have t2 : (p : Int) < (N : Int) := by omega
    have hne := neq_word x1 x2 x3 0 0 0
    have hga := eq_guard_word
    cases hu : wdB (x1, x2, x3) (0, 0, 0)
    · have HQ := hid (show qs3 L p = false by unfold qs3; rw [hx]; exact hu)
      rw [hu] at hne
      clear hcm hp hx hc5 hu
      go_wp2_with fail
      go_ret
      exact ⟨ret_bool (by rw [HC.out, HA1.out, HA2.out, all_not HP.out HQ.out]; simp), HXw.out.trans (by (show Ext _ _; repeat (first | with_reducible (refine Hid.out ?_; assumption) | with_reducible exact Ext.refl _ | with_reducible refine Ext.ext ?_ _ | with_reducible refine Ext.alloc ?_ _ | refine Ext.drew ?_ | refine Ext.drewN ?_ _ | exact Ext.refl _)))⟩
    · have HQ := hid (show qs3 L p = true by unfold qs3; rw [hx]; exact hu)
      rw [hu] at hne
      clear hcm hp hx hc5 hu
      go_wp2_with fail
      go_roundw
      case rel => exact ⟨j + 1, by omega, by go_num, hid (all_take HP.out HQ.out HA.out), hid (HX.out.trans (by (show Ext _ _; repeat (first | with_reducible (refine Hid.out ?_; assumption) | with_reducible exact Ext.refl _ | with_reducible refine Ext.ext ?_ _ | with_reducible refine Ext.alloc ?_ _ | refine Ext.drew ?_ | refine Ext.drewN ?_ _ | exact Ext.refl _))))⟩
      case measure => simp [intOf]; omega
  have hdj : decide (j < os.length) = false := decide_eq_false hjl
  obtain rfl : j = os.length := by omega
  rw [List.take_length] at HA
  have HA3 := hid HA.out
  have HX3 := hid HX.out
  clear HA
  go_wp2_with fail
  go_ret
  exact ⟨ret_bool (by rw [HC.out, HA1.out, HA2.out, HA3.out]; rfl), HXw.out.trans (by (show Ext _ _; repeat (first | with_reducible (refine Hid.out ?_; assumption) | with_reducible exact Ext.refl _ | with_reducible refine Ext.ext ?_ _ | with_reducible refine Ext.alloc ?_ _ | refine Ext.drew ?_ | refine Ext.drewN ?_ _ | exact Ext.refl _)))⟩

end Go.Proofs.YtfijnpfhffhffaaDoor

namespace Go.Proofs.YtfijnpfhffhffaaDoor
set_option linter.unusedSimpArgs false
set_option linter.unusedVariables false
open Go.RowKit

theorem putF_congr {g g' : Nat → Option Wd} : ∀ (ps : List Nat) (L : List Wd), (∀ p ∈ ps, g p = g' p) → putF g L ps = putF g' L ps
  | [], _, _ => rfl
  | p :: ps, L, h => by
    rw [putF, putF, show put1 g L p = put1 g' L p by unfold put1; rw [h p (List.mem_cons_self ..)]]
    exact putF_congr ps _ (fun q hq => h q (List.mem_cons_of_mem _ hq))
theorem from31_4 : fromN 3 8 1 4 = 64 := by kernel_rfl
theorem from31_6 : fromN 3 8 1 6 = 384 := by kernel_rfl
theorem checkZ : checkN 0 0 0 ≠ 0 := by
  intro h
  have : decide (checkN 0 0 0 = 0) = false := by kernel_rfl
  rw [h] at this
  cases this
theorem redoZ (L : List Wd) : redoN 0 0 0 L = ([], 1) := by
  unfold redoN; rw [if_pos (.inl checkZ)]
theorem redo31_few {L : List Wd} (h : L.length < 416) : redoN 3 8 1 L = ([], 1) := by
  unfold redoN; rw [if_pos (.inr (by rw [size31]; omega))]
theorem clean31_few {L : List Wd} (h : L.length < 416) : cleanN 3 8 1 L = false := by
  unfold cleanN; rw [if_pos (.inr (by rw [size31]; omega))]
theorem room31 (who : Int) (h : ¬ (rplaceN 3 1 64 384 who).1 < 0) : (rplaceN 3 1 64 384 who).1 ≤ 30000 ∧ (0 ≤ (rplaceN 3 1 64 384 who).2 ∧ (rplaceN 3 1 64 384 who).2 ≤ 32) ∧ (rplaceN 3 1 64 384 who).1 + 2 + 3 * (rplaceN 3 1 64 384 who).2 ≤ 416 := by
  unfold rplaceN at h ⊢
  split
  · dsimp only; omega
  · split
    · dsimp only; omega
    · rename_i h1 h2
      rw [if_neg h1, if_neg h2] at h
      exact absurd h (by decide)
set_option maxRecDepth 100000
section
variable {L : List Wd} (hl : L.length = 416)
include hl
theorem clean31 : cleanN 3 8 1 L = cleanW L (maysL 3 8 1) (statsL 3 8 1) (ownsL 3 8 1) := by
  unfold cleanN; rw [if_neg (by rintro (h | h); exact h check31; rw [hl, size31] at h; omega)]
theorem redo31 : redoN 3 8 1 L = (redoL 3 8 1 L, 0) := by
  unfold redoN; rw [if_neg (by rintro (h | h); exact h check31; rw [hl, size31] at h; omega)]
theorem redo31_ref (hok : ∀ a ∈ L, WdOk a) : redoW (rlogF 3 1 64 384 (mayL 3 8 1 416) L) L (maysL 3 8 1) (statsL 3 8 1) (ownsL 3 8 1) = redoL 3 8 1 L := by
  unfold redoL redoW
  rw [putF_congr (g := logG (rlogF 3 1 64 384 (mayL 3 8 1 416) L)) (maysL 3 8 1) L (fun p hp => ?_)]
  have hm := maysL_lt hp
  rw [size31] at hm
  obtain ⟨x, hx⟩ : ∃ x, L[p]? = some x := ⟨_, List.getElem?_eq_getElem (by omega)⟩
  have hxo := (hok x (List.mem_of_getElem? hx)).2.2
  unfold logG rlogF logicN
  rw [List.take_of_length_le (by rw [size31, hl]; decide)]
  dsimp only
  rw [if_neg (by rintro (h | h); exact h check31; rw [hl, size31] at h; omega), if_neg (by rw [hm.1]; simp), Int.toNat_natCast, hx, show L.getD p (0, 0, 0) = x by rw [List.getD_eq_getElem?_getD, hx]; rfl]
  dsimp only
  rw [← rlog_law (t := 3) (c := 8) (b := 1) (l := L) (by omega) (by omega) x hxo p]
  refine congrArg some (rlog_same ?_)
  have h1 := rread_law (T := 3) (C := 8) (B := 1) (sl := 64) (rm := 384) (sz := 416) right31 (by omega) from31_4.symm (by rw [if_pos (by omega)]; exact from31_6.symm) size31.symm L hl (x.2.2 / 16777216) (by omega) (by omega)
  exact h1
end
theorem mays31_lt : ∀ (j p : Nat), (maysL 3 8 1)[j]? = some p → p < 416 := fun j p h => by
  have := maysL_lt (List.mem_of_getElem? h)
  rw [size31] at this
  omega
theorem stats31_lt : ∀ (j p : Nat), (statsL 3 8 1)[j]? = some p → p < 416 := fun j p h => (stat_apart (List.mem_of_getElem? h)).2
theorem owns31_lt : ∀ (j p : Nat), (ownsL 3 8 1)[j]? = some p → p < 416 := fun j p h => own_lt (List.mem_of_getElem? h)
theorem lens31 : (maysL 3 8 1).length ≤ 10000 ∧ (statsL 3 8 1).length ≤ 10000 ∧ (ownsL 3 8 1).length ≤ 10000 := by
  refine ⟨?_, ?_, ?_⟩ <;> exact of_decide_eq_true (by kernel_rfl)

end Go.Proofs.YtfijnpfhffhffaaDoor
