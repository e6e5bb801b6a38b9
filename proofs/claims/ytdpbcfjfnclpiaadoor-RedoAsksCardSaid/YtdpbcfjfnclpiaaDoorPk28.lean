/- Walks of the reference of descriptors: Words, Fits. The walk of the reference's Read of descriptors. The walk of the reference's Logical; plain: it answers as the code's. Plain: a status set to Done turns the logical words of the installed written entries, and of no others. Walks of the reference of layer 25: Words and Clean. The walk of the reference's Clean of layer 25. Plain: the reference's recovered words are the code's (the layout of law 20). -/
import Derived.Test.YtdpbcfjfnclpiaaDoorPk11
import Derived.Test.YtdpbcfjfnclpiaaDoorPk09
import Derived.Test.YtdpbcfjfnclpiaaDoorPk07
import Derived.Test.YtdpbcfjfnclpiaaDoorPk12
import Derived.Test.YtdpbcfjfnclpiaaDoorPk03
import Derived.Test.YtdpbcfjfnclpiaaDoorPk15
import Derived.Test.YtdpbcfjfnclpiaaDoorPk14
import Derived.Test.YtdpbcfjfnclpiaaDoorPk16
import Derived.Test.YtdpbcfjfnclpiaaDoorPk26
namespace Go.Proofs.YtdpbcfjfnclpiaaDoor
set_option linter.unusedSimpArgs false
set_option linter.unusedVariables false
open Go.RowKit
theorem pkE (e : En) : packW e = [(e.loc, (if e.wr = true then 1 else 0), 0), (e.val, e.ver, 0), (e.new, 0, 0)] := rfl
theorem ws_append_b {ops : Array Oper} {rest : List Oper} {o : Oper} {a : Act} {Q : Exit → Act → World → Prop} {w : World} {base : Nat} {v : Value} {l : List Wd} (hgd : o.guard = none)
 (s x : Operand) (ho : o.op = .call { callee := .builtin .append, args := #[s, x], argTypes := #[41, 41] })
 (W : World) (hW : Ext W w) (hWb : W.heap.size ≤ base) (hbw : base ≤ w.heap.size) (hs : a.eval s = v) (hown : Ws w base v l)
 (ad : Addr) (m c : Nat) (hx : a.eval x = .slice (some ad) m c) (news : List Wd) (hm : news.length = m)
 (hnews : ∀ (j : Nat) (u : Value), (news.flatMap wdE)[j]? = some u → w.cell? (ad.add j) = some u)
 (hlen : l.length + m ≤ 1000000)
 (h : ∀ v' w', Ws w' base v' (l ++ news) → Ext W w' → Below base w w' → wpList Tryd.prog ops Q rest (a.put o.dst v') w') : wpList Tryd.prog ops Q (o :: rest) a w := by
 obtain ⟨i0, hi, hz0, hz1, hz2⟩ := info_parts Tryd.infoWord
 exact own_append_b Tryd.underlying41 hi hz0 hz1 hz2 rfl (by decide) wdE_len wdE_one hgd s x ho W hW hWb hbw hs hown ad m c hx news hm hnews (by unfold maxLen; omega) (by omega) h
set_option maxRecDepth 100000 in
set_option maxHeartbeats 2000000 in
theorem rfw_any (who seq st : Int) (h0 : 0 ≤ seq) (h1 : seq ≤ 4294967295) (es : List En) (v : Value) (h32 : es.length ≤ 100) (w : World) (hv : Es w v es) :
 Calls Tryd.prog 72 #[.agg #[.int .i64 who, .int .i64 seq, .int .i64 st, v]] w fun y w' => ∃ v', y = .returned v' ∧ (∃ r, w' = ext w r) ∧ Ws w' w.heap.size v' (wordsW seq st es) := by
 have HV := hid hv
 obtain ⟨a, cp, rfl, ⟨hm, hlc⟩, _⟩ := hv
 have hq : IntKind.u32.wrap seq = seq := wraps_u32w seq h0 (by omega)
 clear hm hlc
 go_enter Tryd.func72, Tryd.ntmps72
 go_wp2_with fail
 have hm9 := Own.made (e := 40) (enc := wdE) (size := 3) (base := w.heap.size + 1) (w := w.alloc (.cells #[.int .i64 who, .int .i64 seq, .int .i64 st, .slice a es.length cp] 115)) #[.int .i64 st, .int .u32 seq, .int .u32 0, .int .i64 (es.length : Int), .int .u32 0, .int .u32 0] [(st, seq, 0), ((es.length : Int), 0, 0)] 2 rfl (by simp) (by unfold maxLen; omega) rfl rfl
 simp only [size_ext, World.size_alloc] at hm9
 have HM := hid hm9
 have HB := hid (show Blk (w.alloc (.cells #[.int .i64 who, .int .i64 seq, .int .i64 st, .slice a es.length cp] 115)) w.heap.size [.int .i64 who, .int .i64 seq, .int .i64 st, .slice a es.length cp] by (show Blk _ _ _; repeat first | (with_reducible first | (refine xH ?_; assumption) | refine bD ?_ | refine bX ?_ _) | (with_reducible refine bN _ _ rfl ?_; first | with_reducible rfl | (simp; done)) | (with_reducible first | refine bA ?_ _ | assumption | apply bS) | (with_reducible refine bO ?_ ?_; first | omega | (simp; omega)) | (show List.set _ _ _ = _; exact rfl) | (show _ < List.length _; simp; done)))
 clear hm9
 generalize hB0 : w.alloc (.cells #[.int .i64 who, .int .i64 seq, .int .i64 st, .slice a es.length cp] 115) = W at *
 have HW := hid (show Ext w W by rw [← hB0]; (show Ext _ _; repeat first | (with_reducible first | (refine xH ?_; assumption) | exact xR _ | refine xX ?_ _ | refine xA ?_ _) | refine xD ?_ | refine xN ?_ _ | exact xR _))
 have HWs := hid (show W.heap.size = w.heap.size + 1 by rw [← hB0]; simp)
 clear hB0
 go_loopw [3, 4] (fun u i wr => ∃ j : Nat, j ≤ es.length ∧ i = .int .i64 j ∧ Hid (Ws wr (w.heap.size + 1) u ([(st, seq, 0), ((es.length : Int), 0, 0)] ++ bodyW (es.take j))) ∧ Hid (Ext W wr)) (fun _ i _ => es.length - (intOf i).toNat)
 case atStart => exact ⟨0, by omega, rfl, HM, hid (by (show Ext _ _; repeat first | (with_reducible first | (refine xH ?_; assumption) | exact xR _ | refine xX ?_ _ | refine xA ?_ _) | refine xD ?_ | refine xN ?_ _ | exact xR _))⟩
 case round =>
  clear HM
  obtain ⟨j, hj, rfl, HO, HX⟩ := hrel
  have HXw := hid (HW.out.trans HX.out)
  have d3 := (HB.out.of HX.out).2.2 3 _ rfl
  have d4 := (HB.out.of HX.out).1
  by_cases hjl : j < es.length
  ·have hd : decide (j < es.length) = true := decide_eq_true hjl
   have hx := List.getElem?_eq_getElem hjl
   generalize es[j] = e at hx
   obtain ⟨hnl, b0, o, hab, hbl, hcs⟩ := Sl.at (HV.out.of enE_len HXw.out) hx
   have HA := hid (bodyW_at hx)
   have HL := hid (show (([(st, seq, 0), ((es.length : Int), 0, 0)] : List Wd) ++ bodyW (es.take j)).length ≤ 1000 by rw [List.length_append, bodyW_len, List.length_take]; simp; omega)
   have HP := hid (pkE e)
   subst hab
   obtain ⟨loc, val, ver, ref, new, wr1⟩ := e
   have k0 := hcs 0 (by omega)
   have k1 := hcs 1 (by omega)
   have k2 := hcs 2 (by omega)
   have k3 := hcs 3 (by omega)
   have k4 := hcs 4 (by omega)
   have k5 := hcs 5 (by omega)
   simp [enE] at k0 k1 k2 k3 k4 k5
   clear hcs hnl hx
   obtain ⟨q, hq2⟩ : ∃ q : Int, q = if wr1 = true then 1 else 0 := ⟨_, rfl⟩
   have HQ := hid hq2
   clear hq2
   go_wp2_with fail
   refine (rentry_any loc val ver ref new wr1 _).mono ?_
   rintro y w' ⟨rfl, r3, rfl⟩
   rw [← HQ.out]
   obtain ⟨av, cv, hav⟩ := Own.shape HO.out
   subst hav
   have hsz := HX.out.size
   have HSz := hid (show w.heap.size + 1 ≤ wr.heap.size by have := HWs.out; omega)
   clear hsz
   go_wp2_with (at_builtin; refine ws_append_b rfl _ _ rfl W (HX.out.trans (by (show Ext _ _; repeat first | (with_reducible first | (refine xH ?_; assumption) | exact xR _ | refine xX ?_ _ | refine xA ?_ _) | refine xD ?_ | refine xN ?_ _ | exact xR _))) (by rw [HWs.out]; exact Nat.le_refl _) (by have := HSz.out; simp only [World.size_alloc, size_ext]; omega) rfl (Own.alloc (Own.alloc (Own.ext HO.out _) _) _) _ 3 3 rfl [(loc, q, 0), (val, ver, 0), (new, 0, 0)] rfl (news_new rfl _ (by (first | rfl | (simp; done)))) (by have := HL.out; omega) ?_; rintro v9 w9 hv9 hX9 hB9; have HV9 := hid hv9; have HX9 := hid hX9; clear hv9 hX9 hB9)
   go_roundw
   case rel => exact ⟨j + 1, by omega, by go_num, hid (by rw [HA.out, HP.out, ← List.append_assoc]; (try dsimp only); rw [← HQ.out]; exact HV9.out), hid HX9.out⟩
   case measure => simp [intOf]; omega
  ·have hd : decide (j < es.length) = false := decide_eq_false hjl
   obtain rfl : j = es.length := by omega
   have hO := HO.out
   rw [List.take_length] at hO
   have HO2 := hid (Own.mono hO (Nat.le_succ w.heap.size))
   clear hO
   go_wp2_with fail
   go_ret
   exact ⟨_, rfl, HXw.out, HO2.out⟩
theorem fits_no {T B sl rm : Int} {ws : List Bool} {who seq st : Int} {es : List En} (h : (rplaceN T B sl rm who).1 < 0 ∨ seq < 1 ∨ 16777215 < seq ∨ st < 0 ∨ 3 < st ∨ (rplaceN T B sl rm who).2 < (es.length : Int) ∨ rightB es = false) : fitsB T B sl rm ws who seq st es = false := by
 cases hf : fitsB T B sl rm ws who seq st es
 ·rfl
 ·unfold fitsB at hf
  simp only [Bool.and_eq_true, decide_eq_true_eq] at hf
  obtain ⟨⟨⟨⟨⟨a1, a2⟩, a3⟩, a4⟩, a5⟩, a6⟩ := hf
  rcases h with h | h | h | h | h | h | h
  ·omega
  ·omega
  ·omega
  ·omega
  ·omega
  ·omega
  ·rw [a5] at h; cases h
theorem fits_all {T B sl rm : Int} {ws : List Bool} {who seq st : Int} {es : List En} (h1 : ¬ (rplaceN T B sl rm who).1 < 0) (h2 : ¬ seq < 1) (h3 : ¬ 16777215 < seq) (h4 : ¬ st < 0) (h5 : ¬ 3 < st) (h6 : ¬ (rplaceN T B sl rm who).2 < (es.length : Int)) (h7 : rightB es = true) : fitsB T B sl rm ws who seq st es = es.all (fun e => rmayB ws e.loc) := by
 unfold fitsB
 rw [decide_eq_true (by omega), decide_eq_true (by omega), decide_eq_true (by omega), decide_eq_true (by omega), h7]; simp
theorem all_at {ws : List Bool} {es : List En} {j : Nat} {e : En} (h : es[j]? = some e) : (es.drop j).all (fun e => rmayB ws e.loc) = (rmayB ws e.loc && (es.drop (j + 1)).all (fun e => rmayB ws e.loc)) := by
 obtain ⟨hj, hk⟩ := List.getElem?_eq_some_iff.1 h
 rw [List.drop_eq_getElem_cons hj, hk]; rfl
set_option maxRecDepth 100000 in
set_option maxHeartbeats 4000000 in
theorem rfits_any (T B sl rm sz : Int) (hT : 0 ≤ T ∧ T ≤ 8) (hB : 0 ≤ B ∧ B ≤ 64) (hsl : 0 ≤ sl ∧ sl ≤ 100000) (hrm : 0 ≤ rm ∧ rm ≤ 100000) (ws : List Bool) (pv : Value) (who seq st : Int) (es : List En) (v : Value) (h32 : es.length ≤ 1000) (w : World) (hp : Sl w 1 boE pv ws) (hv : Es w v es) :
 Calls Tryd.prog 73 #[.agg #[.int .i64 T, .int .i64 B, .int .i64 sl, .int .i64 rm, .int .i64 104, .int .i64 32, pv, .int .i64 sz], .agg #[.int .i64 who, .int .i64 seq, .int .i64 st, v]] w
  fun y w' => y = .returned (.bool (fitsB T B sl rm ws who seq st es)) ∧ ∃ r, w' = ext w r := by
 have HV := hid hv
 have HPv := hid hp
 have HT := hid hT
 have HB := hid hB
 have HSl := hid hsl
 have HRm := hid hrm
 obtain ⟨a, cp, rfl, _, _⟩ := hv
 obtain ⟨pa, pc, rfl, _, _⟩ := hp
 obtain ⟨⟨q1, q2⟩, hq⟩ : ∃ q, q = rplaceN T B sl rm who := ⟨_, rfl⟩
 have HQ := hid hq
 have HNo := hid (fun h => fits_no (T := T) (B := B) (sl := sl) (rm := rm) (ws := ws) (who := who) (seq := seq) (st := st) (es := es) h)
 have HAll := hid (fun h1 h2 h3 h4 h5 h6 h7 => fits_all (T := T) (B := B) (sl := sl) (rm := rm) (ws := ws) (who := who) (seq := seq) (st := st) (es := es) h1 h2 h3 h4 h5 h6 h7)
 rw [← hq] at HNo HAll
 dsimp only at HNo HAll
 obtain ⟨n, hn⟩ : ∃ n, n = es.length := ⟨_, rfl⟩
 have HN := hid hn
 rw [← hn] at HV HNo HAll h32 ⊢
 clear hT hB hsl hrm hq hn
 have hcs : q1 < 0 ∨ (¬ q1 < 0 ∧ seq < 1) ∨ (¬ q1 < 0 ∧ ¬ seq < 1 ∧ 16777215 < seq) ∨ (¬ q1 < 0 ∧ ¬ seq < 1 ∧ ¬ 16777215 < seq ∧ st < 0) ∨ (¬ q1 < 0 ∧ ¬ seq < 1 ∧ ¬ 16777215 < seq ∧ ¬ st < 0 ∧ 3 < st) ∨ (¬ q1 < 0 ∧ ¬ seq < 1 ∧ ¬ 16777215 < seq ∧ ¬ st < 0 ∧ ¬ 3 < st ∧ q2 < (n : Int)) ∨ (¬ q1 < 0 ∧ ¬ seq < 1 ∧ ¬ 16777215 < seq ∧ ¬ st < 0 ∧ ¬ 3 < st ∧ ¬ q2 < (n : Int)) := by omega
 rcases hcs with h1 | ⟨h1, h2⟩ | ⟨h1, h2, h3⟩ | ⟨h1, h2, h3, h4⟩ | ⟨h1, h2, h3, h4, h5⟩ | ⟨h1, h2, h3, h4, h5, h6⟩ | ⟨h1, h2, h3, h4, h5, h6⟩
 ·have HF := hid (HNo.out (by omega))
  go_enter Tryd.func73, Tryd.ntmps73
  go_wp2_with fail
  refine (rplace_any T B sl rm who _ sz HT.out HB.out HSl.out HRm.out _).mono ?_
  rintro e w' ⟨rfl, r1, rfl⟩
  rw [← HQ.out]
  dsimp only
  go_wp2_with fail
  go_ret
  exact ⟨ret_bool HF.out.symm, by (show Ext _ _; repeat first | (with_reducible first | (refine xH ?_; assumption) | exact xR _ | refine xX ?_ _ | refine xA ?_ _) | refine xD ?_ | refine xN ?_ _ | exact xR _)⟩
 ·have HF := hid (HNo.out (by omega))
  go_enter Tryd.func73, Tryd.ntmps73
  go_wp2_with fail
  refine (rplace_any T B sl rm who _ sz HT.out HB.out HSl.out HRm.out _).mono ?_
  rintro e w' ⟨rfl, r1, rfl⟩
  rw [← HQ.out]
  dsimp only
  go_wp2_with fail
  go_ret
  exact ⟨ret_bool HF.out.symm, by (show Ext _ _; repeat first | (with_reducible first | (refine xH ?_; assumption) | exact xR _ | refine xX ?_ _ | refine xA ?_ _) | refine xD ?_ | refine xN ?_ _ | exact xR _)⟩
 ·have HF := hid (HNo.out (by omega))
  go_enter Tryd.func73, Tryd.ntmps73
  go_wp2_with fail
  refine (rplace_any T B sl rm who _ sz HT.out HB.out HSl.out HRm.out _).mono ?_
  rintro e w' ⟨rfl, r1, rfl⟩
  rw [← HQ.out]
  dsimp only
  go_wp2_with fail
  go_ret
  exact ⟨ret_bool HF.out.symm, by (show Ext _ _; repeat first | (with_reducible first | (refine xH ?_; assumption) | exact xR _ | refine xX ?_ _ | refine xA ?_ _) | refine xD ?_ | refine xN ?_ _ | exact xR _)⟩
 ·have HF := hid (HNo.out (by omega))
  go_enter Tryd.func73, Tryd.ntmps73
  go_wp2_with fail
  refine (rplace_any T B sl rm who _ sz HT.out HB.out HSl.out HRm.out _).mono ?_
  rintro e w' ⟨rfl, r1, rfl⟩
  rw [← HQ.out]
  dsimp only
  go_wp2_with fail
  go_ret
  exact ⟨ret_bool HF.out.symm, by (show Ext _ _; repeat first | (with_reducible first | (refine xH ?_; assumption) | exact xR _ | refine xX ?_ _ | refine xA ?_ _) | refine xD ?_ | refine xN ?_ _ | exact xR _)⟩
 ·have HF := hid (HNo.out (by omega))
  go_enter Tryd.func73, Tryd.ntmps73
  go_wp2_with fail
  refine (rplace_any T B sl rm who _ sz HT.out HB.out HSl.out HRm.out _).mono ?_
  rintro e w' ⟨rfl, r1, rfl⟩
  rw [← HQ.out]
  dsimp only
  go_wp2_with fail
  go_ret
  exact ⟨ret_bool HF.out.symm, by (show Ext _ _; repeat first | (with_reducible first | (refine xH ?_; assumption) | exact xR _ | refine xX ?_ _ | refine xA ?_ _) | refine xD ?_ | refine xN ?_ _ | exact xR _)⟩
 ·have HF := hid (HNo.out (by omega))
  go_enter Tryd.func73, Tryd.ntmps73
  go_wp2_with fail
  refine (rplace_any T B sl rm who _ sz HT.out HB.out HSl.out HRm.out _).mono ?_
  rintro e w' ⟨rfl, r1, rfl⟩
  rw [← HQ.out]
  dsimp only
  go_wp2_with fail
  go_ret
  exact ⟨ret_bool HF.out.symm, by (show Ext _ _; repeat first | (with_reducible first | (refine xH ?_; assumption) | exact xR _ | refine xX ?_ _ | refine xA ?_ _) | refine xD ?_ | refine xN ?_ _ | exact xR _)⟩
 ·go_enter Tryd.func73, Tryd.ntmps73
  go_wp2_with fail
  refine (rplace_any T B sl rm who _ sz HT.out HB.out HSl.out HRm.out _).mono ?_
  rintro e w' ⟨rfl, r1, rfl⟩
  rw [← HQ.out]
  dsimp only
  go_wp2_with fail
  refine (rright_any es _ _ (HV.out.of enE_len (by (show Ext _ _; repeat first | (with_reducible first | (refine xH ?_; assumption) | exact xR _ | refine xX ?_ _ | refine xA ?_ _) | refine xD ?_ | refine xN ?_ _ | exact xR _))) (by rw [← HN.out]; exact h32)).mono ?_
  rintro e w' ⟨rfl, r2, rfl⟩
  cases hrb : rightB es
  ·have HF := hid (HNo.out (.inr (.inr (.inr (.inr (.inr (.inr hrb)))))))
   clear hrb
   go_wp2_with fail
   go_ret
   exact ⟨ret_bool HF.out.symm, by (show Ext _ _; repeat first | (with_reducible first | (refine xH ?_; assumption) | exact xR _ | refine xX ?_ _ | refine xA ?_ _) | refine xD ?_ | refine xN ?_ _ | exact xR _)⟩
  ·have HF := hid (show fitsB T B sl rm ws who seq st es = (es.drop 0).all (fun e => rmayB ws e.loc) from HAll.out h1 h2 h3 h4 h5 h6 hrb)
   clear hrb HNo HAll
   generalize hW : ext _ r2 = W
   have HB3 := hid (show Blk W (w.heap.size + 1) [.int .i64 who, .int .i64 seq, .int .i64 st, .slice a n cp] by rw [← hW]; (show Blk _ _ _; repeat first | (with_reducible first | (refine xH ?_; assumption) | refine bD ?_ | refine bX ?_ _) | (with_reducible refine bN _ _ rfl ?_; first | with_reducible rfl | (simp; done)) | (with_reducible first | refine bA ?_ _ | assumption | apply bS) | (with_reducible refine bO ?_ ?_; first | omega | (simp; omega)) | (show List.set _ _ _ = _; exact rfl) | (show _ < List.length _; simp; done)))
   have HB2 := hid (show Blk W w.heap.size [.int .i64 T, .int .i64 B, .int .i64 sl, .int .i64 rm, .int .i64 104, .int .i64 32, .slice pa ws.length pc, .int .i64 sz] by rw [← hW]; (show Blk _ _ _; repeat first | (with_reducible first | (refine xH ?_; assumption) | refine bD ?_ | refine bX ?_ _) | (with_reducible refine bN _ _ rfl ?_; first | with_reducible rfl | (simp; done)) | (with_reducible first | refine bA ?_ _ | assumption | apply bS) | (with_reducible refine bO ?_ ?_; first | omega | (simp; omega)) | (show List.set _ _ _ = _; exact rfl) | (show _ < List.length _; simp; done)))
   have HW := hid (show Ext w W by rw [← hW]; (show Ext _ _; repeat first | (with_reducible first | (refine xH ?_; assumption) | exact xR _ | refine xX ?_ _ | refine xA ?_ _) | refine xD ?_ | refine xN ?_ _ | exact xR _))
   clear hW
   go_wp2_with fail
   go_loopw [7] (fun i wr => ∃ j : Nat, j ≤ n ∧ i = .int .i64 j ∧ Hid (fitsB T B sl rm ws who seq st es = (es.drop j).all (fun e => rmayB ws e.loc)) ∧ Hid (Ext W wr)) (fun i _ => n - (intOf i).toNat)
   case atStart => exact ⟨0, by omega, rfl, HF, hid (by (show Ext _ _; repeat first | (with_reducible first | (refine xH ?_; assumption) | exact xR _ | refine xX ?_ _ | refine xA ?_ _) | refine xD ?_ | refine xN ?_ _ | exact xR _))⟩
   case round =>
    clear HF
    obtain ⟨j, hj, rfl, HF, HX⟩ := hrel
    have HXw := hid (HW.out.trans HX.out)
    obtain ⟨c0, c1, c2, c3, c4, c5, c6, c7⟩ := (HB2.out.of HX.out).eight
    have d3 := (HB3.out.of HX.out).2.2 3 _ rfl
    have d4 := (HB3.out.of HX.out).1
    have c8 := (HB2.out.of HX.out).1
    by_cases hjl : j < n
    ·have hd : decide (j < n) = true := decide_eq_true hjl
     have hx := List.getElem?_eq_getElem (show j < es.length by have := HN.out; omega)
     generalize es[j]'(by have := HN.out; omega) = e at hx
     have HA := hid (all_at (ws := ws) hx)
     obtain ⟨hnl, b0, o, hab, hbl, hcs⟩ := Sl.at (HV.out.of enE_len HXw.out) hx
     subst hab
     have k0 := hcs 0 (by omega)
     simp [enE] at k0
     obtain ⟨loc, val, ver, ref, new, wr1⟩ := e
     dsimp only at k0
     clear hcs hnl hx
     obtain ⟨mb, hmb⟩ : ∃ mb, mb = rmayB ws loc := ⟨_, rfl⟩
     have HMb := hid (fun w hp => by have := rmay_any T B sl rm 104 32 sz ws (.slice pa ws.length pc) loc w hp; rw [← hmb] at this; exact this)
     have HM2 := hid hmb
     clear hmb
     have hjj : (j : Int) < (n : Int) := by omega
     cases mb
     ·have HR := hid (show fitsB T B sl rm ws who seq st es = false by rw [HF.out, HA.out, ← HM2.out]; rfl)
      clear HF HA
      go_wp2_with fail
      refine region_ext (by kernel_rfl) (by kernel_rfl) ?_
      repeat (go_big_quiet_step ((go_at_call 78; exact quiet_ext (HMb.out _ (HPv.out.of boE_len (HXw.out.trans (by (show Ext _ _; repeat first | (with_reducible first | (refine xH ?_; assumption) | exact xR _ | refine xX ?_ _ | refine xA ?_ _) | refine xD ?_ | refine xN ?_ _ | exact xR _))))))))
      refine wpQuiet_nil ?_
      rintro _ ⟨r4, rfl⟩
      go_wp2_with fail
      go_ret
      exact ⟨ret_bool HR.out.symm, HXw.out.trans (by (show Ext _ _; repeat first | (with_reducible first | (refine xH ?_; assumption) | exact xR _ | refine xX ?_ _ | refine xA ?_ _) | refine xD ?_ | refine xN ?_ _ | exact xR _))⟩
     ·have HR := hid (show fitsB T B sl rm ws who seq st es = (es.drop (j + 1)).all (fun e => rmayB ws e.loc) by rw [HF.out, HA.out, ← HM2.out]; rfl)
      clear HF HA
      go_wp2_with fail
      refine region_ext (by kernel_rfl) (by kernel_rfl) ?_
      repeat (go_big_quiet_step ((go_at_call 78; exact quiet_ext (HMb.out _ (HPv.out.of boE_len (HXw.out.trans (by (show Ext _ _; repeat first | (with_reducible first | (refine xH ?_; assumption) | exact xR _ | refine xX ?_ _ | refine xA ?_ _) | refine xD ?_ | refine xN ?_ _ | exact xR _))))))))
      refine wpQuiet_nil ?_
      rintro _ ⟨r4, rfl⟩
      go_wp2_with fail
      go_roundw
      case rel => exact ⟨j + 1, by omega, by go_num, HR, hid (HX.out.trans (by (show Ext _ _; repeat first | (with_reducible first | (refine xH ?_; assumption) | exact xR _ | refine xX ?_ _ | refine xA ?_ _) | refine xD ?_ | refine xN ?_ _ | exact xR _)))⟩
      case measure => simp [intOf]; omega
    ·have hd : decide (j < n) = false := decide_eq_false hjl
     have HR := hid (show fitsB T B sl rm ws who seq st es = true by have := HN.out; rw [HF.out, List.drop_eq_nil_of_le (by omega)]; rfl)
     clear HF
     go_wp2_with fail
     go_ret
     exact ⟨ret_bool HR.out.symm, HXw.out⟩
end Go.Proofs.YtdpbcfjfnclpiaaDoor
namespace Go.Proofs.YtdpbcfjfnclpiaaDoor
set_option linter.unusedSimpArgs false
set_option linter.unusedVariables false
open Go.RowKit
def RRP (w : World) (q : Option (Int × Int × List En)) (who : Int) (y : Ending) (w' : World) : Prop :=
 (∃ r, w' = ext w r) ∧ ∃ (a b c : Int) (s : Option Addr) (n cp : Nat), y = .returned (.tuple #[.agg #[.int .i64 a, .int .i64 b, .int .i64 c, .slice s n cp], .bool q.isSome]) ∧
  ∀ seq st es, q = some (seq, st, es) → a = who ∧ b = seq ∧ c = st ∧ Es w' (.slice s n cp) es
theorem RRP.no {w w' : World} {q : Option (Int × Int × List En)} {who a b c : Int} {s : Option Addr} {n cp : Nat} (hq : q = none) (h : ∃ r, w' = ext w r) : RRP w q who (.returned (.tuple #[.agg #[.int .i64 a, .int .i64 b, .int .i64 c, .slice s n cp], .bool false])) w' := by
 subst hq; exact ⟨h, a, b, c, s, n, cp, rfl, by simp⟩
theorem RRP.yes {w w' : World} {q : Option (Int × Int × List En)} {who b c : Int} {s : Option Addr} {n cp : Nat} {es : List En} (hq : q = some (b, c, es)) (h : ∃ r, w' = ext w r) (he : Es w' (.slice s n cp) es) : RRP w q who (.returned (.tuple #[.agg #[.int .i64 who, .int .i64 b, .int .i64 c, .slice s n cp], .bool true])) w' := by
 subst hq; exact ⟨h, who, b, c, s, n, cp, rfl, fun seq st es' h' => by cases h'; exact ⟨rfl, rfl, rfl, he⟩⟩
set_option maxRecDepth 100000 in
set_option maxHeartbeats 4000000 in
theorem rread_any (T B sl rm sz : Int) (hT : 0 ≤ T ∧ T ≤ 8) (hB : 0 ≤ B ∧ B ≤ 64) (hsl : 0 ≤ sl ∧ sl ≤ 100000) (hrm : 0 ≤ rm ∧ rm ≤ 100000) (ws : List Bool) (pv : Value) (who : Int) (l : List Wd) (lv : Value) (hok : ∀ a ∈ l, WdOk a)
 (hroom : ¬ (rplaceN T B sl rm who).1 < 0 → (rplaceN T B sl rm who).1 ≤ 30000 ∧ (0 ≤ (rplaceN T B sl rm who).2 ∧ (rplaceN T B sl rm who).2 ≤ 32) ∧ (rplaceN T B sl rm who).1 + 2 + 3 * (rplaceN T B sl rm who).2 ≤ (l.length : Int))
 (w : World) (hp : Sl w 1 boE pv ws) (hv : Sl w 3 wdE lv l) :
 Calls Tryd.prog 65 #[.agg #[.int .i64 T, .int .i64 B, .int .i64 sl, .int .i64 rm, .int .i64 104, .int .i64 32, pv, .int .i64 sz], lv, .int .i64 who] w fun y w' => RRP w (rreadO T B sl rm ws l who) who y w' := by
 have HV := hid hv
 have HPv := hid hp
 have HT := hid hT
 have HB := hid hB
 have HSl := hid hsl
 have HRm := hid hrm
 have HOk := hid hok
 obtain ⟨a, cp, rfl, ⟨hm, hlc⟩, _⟩ := hv
 obtain ⟨pa, pc, rfl, _, _⟩ := hp
 obtain ⟨O, hO⟩ : ∃ O, O = rreadO T B sl rm ws l who := ⟨_, rfl⟩
 rw [← hO]
 unfold rreadO at hO
 have HRd := hid hO
 clear hO
 obtain ⟨⟨q1, q2⟩, hq⟩ : ∃ q, q = rplaceN T B sl rm who := ⟨_, rfl⟩
 have HQ := hid hq
 rw [← hq] at hroom HRd
 dsimp only at hroom HRd
 clear hT hB hsl hrm hq hok
 by_cases h1 : q1 < 0
 ·have HF := hid (show O = none by rw [HRd.out, if_pos h1])
  clear HRd hroom
  go_enter Tryd.func65, Tryd.ntmps65
  go_wp2_with fail
  refine (rplace_any T B sl rm who _ sz HT.out HB.out HSl.out HRm.out _).mono ?_
  rintro e w' ⟨rfl, r1, rfl⟩
  rw [← HQ.out]
  dsimp only
  (repeat (first | go_values | go_skip | go_guarded | go_step | go_upon | (simp only [Int.not_lt, Int.not_le] at *; go_simp) | (go_ite <;> go_prune <;> (try go_simp))))
  exact bodyPost_ret (v := .tuple #[.agg #[.int .i64 0, .int .i64 0, .int .i64 0, .slice none 0 0], .bool false]) (by simp [results, Tryd.results65, go_sem]) rfl (RRP.no HF.out (by (show Ext _ _; repeat with_reducible first | (refine xH ?_; assumption) | exact xR _ | refine xX ?_ _ | refine xA ?_ _ | refine xD ?_ | refine xS ?_ (by (try dsimp only); first | omega | (simp; done) | (simp; omega)) _)))
 obtain ⟨hp9, ⟨hm0, hm1⟩, hrl⟩ := hroom h1
 obtain ⟨p, rfl⟩ := Int.eq_ofNat_of_zero_le (show 0 ≤ q1 by omega)
 rw [if_neg h1, Int.toNat_natCast] at HRd
 have hpl : p + 1 < l.length := by omega
 have hsx := List.getElem?_eq_getElem (show p < l.length by omega)
 have hnx := List.getElem?_eq_getElem hpl
 generalize l[p] = s at hsx
 generalize l[p + 1] = n at hnx
 rw [hsx, hnx] at HRd
 dsimp only at HRd
 obtain ⟨g0, bb, oo, hab, hbl, hcs⟩ := Sl.at HV.out hsx
 obtain ⟨g1, bb', oo', hab', _, hcn⟩ := Sl.at HV.out hnx
 subst hab
 cases hab'
 obtain ⟨_, ⟨hs20, hs21⟩, _⟩ := HOk.out s (List.mem_of_getElem? hsx)
 obtain ⟨s1, s2, s3⟩ := s
 obtain ⟨n1, n2, n3⟩ := n
 dsimp only at hs20 hs21
 have k0 := hcs 0 (by omega)
 have k1 := hcs 1 (by omega)
 have k2 := hcs 2 (by omega)
 have q0 := hcn 0 (by omega)
 simp [wdE] at k0 k1 k2 q0
 have HSx := hid hsx
 have HNx := hid hnx
 have hi0 : (0 : Int) ≤ (p : Int) := by omega
 have hi1 : (p : Int) < (l.length : Int) := by omega
 have hi2 : (0 : Int) ≤ (p : Int) + 1 := by omega
 have hi3 : (p : Int) + 1 < (l.length : Int) := by omega
 have ht : ((p : Int) + 1).toNat = p + 1 := by omega
 have HRl := hid hrl
 clear hcs hcn g0 g1 hsx hnx hroom hm hlc hrl h1
 by_cases hbad : n1 < 1 ∨ q2 < n1
 ·have HF := hid (show O = none by rw [HRd.out, if_pos hbad])
  clear HRd
  have hcs : n1 < 1 ∨ (¬ n1 < 1 ∧ q2 < n1) := by omega
  clear hbad
  rcases hcs with h1 | ⟨h1, h2⟩
  all_goals
   go_enter Tryd.func65, Tryd.ntmps65
   go_wp2_with fail
   refine (rplace_any T B sl rm who _ sz HT.out HB.out HSl.out HRm.out _).mono ?_
   rintro e w' ⟨rfl, r1, rfl⟩
   rw [← HQ.out]
   dsimp only
   (repeat (first | go_values | go_skip | go_guarded | go_step | go_upon | (simp only [Int.not_lt, Int.not_le] at *; go_simp) | (go_ite <;> go_prune <;> (try go_simp))))
   exact bodyPost_ret (v := .tuple #[.agg #[.int .i64 0, .int .i64 0, .int .i64 0, .slice none 0 0], .bool false]) (by simp [results, Tryd.results65, go_sem]) rfl (RRP.no HF.out (by (show Ext _ _; repeat with_reducible first | (refine xH ?_; assumption) | exact xR _ | refine xX ?_ _ | refine xA ?_ _ | refine xD ?_ | refine xS ?_ (by (try dsimp only); first | omega | (simp; done) | (simp; omega)) _)))
 obtain ⟨k, rfl⟩ := Int.eq_ofNat_of_zero_le (show 0 ≤ n1 by omega)
 have hk1 : ¬ (k : Int) < 1 := by omega
 have hk2 : ¬ q2 < (k : Int) := by omega
 rw [if_neg hbad, Int.toNat_natCast] at HRd
 clear hbad
 obtain ⟨t, ht9⟩ : ∃ t, t = stN s1 := ⟨_, rfl⟩
 rw [← ht9] at HRd
 have hcs : (0 ≤ s1 ∧ s1 ≤ 3 ∧ t = s1) ∨ (¬ 0 ≤ s1 ∧ t = -1) ∨ (0 ≤ s1 ∧ ¬ s1 ≤ 3 ∧ t = -1) := by
  unfold stN at ht9
  split at ht9 <;> omega
 clear ht9
 go_enter Tryd.func65, Tryd.ntmps65
 go_wp2_with fail
 refine (rplace_any T B sl rm who _ sz HT.out HB.out HSl.out HRm.out _).mono ?_
 rintro e w' ⟨rfl, r1, rfl⟩
 rw [← HQ.out]
 dsimp only
 go_upto_region 8 with fail
 go_cut [62] (fun c wx => c = .bool (decide (0 ≤ s1 ∧ s1 ≤ 3)) ∧ Blk wx w.heap.size [.int .i64 T, .int .i64 B, .int .i64 sl, .int .i64 rm, .int .i64 104, .int .i64 32, .slice pa ws.length pc, .int .i64 sz] ∧ Blk wx (w.heap.size + 1) [.int .i64 0, .int .i64 0, .int .i64 0, .slice none 0 0] ∧ Blk wx (w.heap.size + 1 + 1 + r1.new.size) [.int .i64 who, .int .i64 s2, .int .i64 (-1), .slice none 0 0] ∧ Ext w wx)
 case first =>
  rcases hcs with ⟨z1, z2, _⟩ | ⟨z1, _⟩ | ⟨z1, z2, _⟩
  all_goals
   go_wp2_with fail
   go_meet
   exact ⟨by simp [z1]; try omega, by (show Blk _ _ _; repeat first | (with_reducible first | (refine xH ?_; assumption) | apply bD | apply bX) | ((with_reducible refine bN _ _ rfl ?_); first | with_reducible rfl | focus (simp; done)) | ((with_reducible apply bE); first | with_reducible rfl | focus (simp; done)) | (with_reducible first | apply bA | assumption | apply bS) | ((with_reducible refine bO ?_ ?_); first | omega | (simp; omega)) | (show List.set _ _ _ = _; exact rfl) | focus (show _ < List.length _; simp; done)), by (show Blk _ _ _; repeat first | (with_reducible first | (refine xH ?_; assumption) | apply bD | apply bX) | ((with_reducible refine bN _ _ rfl ?_); first | with_reducible rfl | focus (simp; done)) | ((with_reducible apply bE); first | with_reducible rfl | focus (simp; done)) | (with_reducible first | apply bA | assumption | apply bS) | ((with_reducible refine bO ?_ ?_); first | omega | (simp; omega)) | (show List.set _ _ _ = _; exact rfl) | focus (show _ < List.length _; simp; done)), by (show Blk _ _ _; repeat first | (with_reducible first | (refine xH ?_; assumption) | apply bD | apply bX) | ((with_reducible refine bN _ _ rfl ?_); first | with_reducible rfl | focus (simp; done)) | ((with_reducible apply bE); first | with_reducible rfl | focus (simp; done)) | (with_reducible first | apply bA | assumption | apply bS) | ((with_reducible refine bO ?_ ?_); first | omega | (simp; omega)) | (show List.set _ _ _ = _; exact rfl) | focus (show _ < List.length _; simp; done)), by (show Ext _ _; repeat with_reducible first | (refine xH ?_; assumption) | exact xR _ | refine xX ?_ _ | refine xA ?_ _ | refine xD ?_ | refine xS ?_ (by (try dsimp only); first | omega | (simp; done) | (simp; omega)) _)⟩
 case rest =>
 obtain ⟨rfl, hb3, hb6, hb11, hex⟩ := hcut
 have HB3 := hid hb3
 have HB6 := hid hb6
 have HB11 := hid hb11
 have HEx := hid hex
 clear hb3 hb6 hb11 hex
 go_upto_if 62 with fail
 go_cut [] (fun wx => Blk wx w.heap.size [.int .i64 T, .int .i64 B, .int .i64 sl, .int .i64 rm, .int .i64 104, .int .i64 32, .slice pa ws.length pc, .int .i64 sz] ∧ Blk wx (w.heap.size + 1) [.int .i64 0, .int .i64 0, .int .i64 0, .slice none 0 0] ∧ Blk wx (w.heap.size + 1 + 1 + r1.new.size) [.int .i64 who, .int .i64 s2, .int .i64 t, .slice none 0 0] ∧ Ext w wx)
 case first =>
  have k0' := HEx.out.cell k0
  have c2 := HB11.out.2.2 2 _ rfl
  have c3 := HB11.out.2.1 2
  have c4 := HB11.out.1
  by_cases hz : 0 ≤ s1 ∧ s1 ≤ 3
  ·rw [decide_eq_true hz]
   obtain rfl : t = s1 := by omega
   go_wp2_with fail
   go_meet
   exact ⟨by (show Blk _ _ _; repeat first | (with_reducible first | (refine xH ?_; assumption) | apply bD | apply bX) | ((with_reducible refine bN _ _ rfl ?_); first | with_reducible rfl | focus (simp; done)) | ((with_reducible apply bE); first | with_reducible rfl | focus (simp; done)) | (with_reducible first | apply bA | assumption | apply bS) | ((with_reducible refine bO ?_ ?_); first | omega | (simp; omega)) | (show List.set _ _ _ = _; exact rfl) | focus (show _ < List.length _; simp; done)), by (show Blk _ _ _; repeat first | (with_reducible first | (refine xH ?_; assumption) | apply bD | apply bX) | ((with_reducible refine bN _ _ rfl ?_); first | with_reducible rfl | focus (simp; done)) | ((with_reducible apply bE); first | with_reducible rfl | focus (simp; done)) | (with_reducible first | apply bA | assumption | apply bS) | ((with_reducible refine bO ?_ ?_); first | omega | (simp; omega)) | (show List.set _ _ _ = _; exact rfl) | focus (show _ < List.length _; simp; done)), by (show Blk _ _ _; repeat first | (with_reducible first | (refine xH ?_; assumption) | apply bD | apply bX) | ((with_reducible refine bN _ _ rfl ?_); first | with_reducible rfl | focus (simp; done)) | ((with_reducible apply bE); first | with_reducible rfl | focus (simp; done)) | (with_reducible first | apply bA | assumption | apply bS) | ((with_reducible refine bO ?_ ?_); first | omega | (simp; omega)) | (show List.set _ _ _ = _; exact rfl) | focus (show _ < List.length _; simp; done)), by (show Ext _ _; repeat with_reducible first | (refine xH ?_; assumption) | exact xR _ | refine xX ?_ _ | refine xA ?_ _ | refine xD ?_ | refine xS ?_ (by (try dsimp only); first | omega | (simp; done) | (simp; omega)) _)⟩
  ·rw [decide_eq_false hz]
   obtain rfl : t = -1 := by omega
   go_wp2_with fail
   go_meet
   exact ⟨by (show Blk _ _ _; repeat first | (with_reducible first | (refine xH ?_; assumption) | apply bD | apply bX) | ((with_reducible refine bN _ _ rfl ?_); first | with_reducible rfl | focus (simp; done)) | ((with_reducible apply bE); first | with_reducible rfl | focus (simp; done)) | (with_reducible first | apply bA | assumption | apply bS) | ((with_reducible refine bO ?_ ?_); first | omega | (simp; omega)) | (show List.set _ _ _ = _; exact rfl) | focus (show _ < List.length _; simp; done)), by (show Blk _ _ _; repeat first | (with_reducible first | (refine xH ?_; assumption) | apply bD | apply bX) | ((with_reducible refine bN _ _ rfl ?_); first | with_reducible rfl | focus (simp; done)) | ((with_reducible apply bE); first | with_reducible rfl | focus (simp; done)) | (with_reducible first | apply bA | assumption | apply bS) | ((with_reducible refine bO ?_ ?_); first | omega | (simp; omega)) | (show List.set _ _ _ = _; exact rfl) | focus (show _ < List.length _; simp; done)), by (show Blk _ _ _; repeat first | (with_reducible first | (refine xH ?_; assumption) | apply bD | apply bX) | ((with_reducible refine bN _ _ rfl ?_); first | with_reducible rfl | focus (simp; done)) | ((with_reducible apply bE); first | with_reducible rfl | focus (simp; done)) | (with_reducible first | apply bA | assumption | apply bS) | ((with_reducible refine bO ?_ ?_); first | omega | (simp; omega)) | (show List.set _ _ _ = _; exact rfl) | focus (show _ < List.length _; simp; done)), by (show Ext _ _; repeat with_reducible first | (refine xH ?_; assumption) | exact xR _ | refine xX ?_ _ | refine xA ?_ _ | refine xD ?_ | refine xS ?_ (by (try dsimp only); first | omega | (simp; done) | (simp; omega)) _)⟩
 case rest =>
 obtain ⟨hb3, hb6, hb11, hex⟩ := hcut
 clear HB3 HB6 HB11 HEx
 have HB3 := hid hb3
 have HB6 := hid hb6
 have HB11 := hid hb11
 have HEx := hid hex
 generalize hDD : w.heap.size + 1 + 1 + r1.new.size = DD at *
 have hD1 : w.heap.size + 1 < DD := by omega
 clear hb3 hb6 hb11 hex hDD k0 k1 k2 q0
 have hDw := HB11.out.1
 obtain ⟨V, rfl⟩ : ∃ V : World, V = wc := ⟨_, rfl⟩
 have hpk : (p : Int) + 2 + 3 * (k : Int) ≤ (l.length : Int) := by have := HRl.out; omega
 go_wp2_with fail
 go_loopw [12] (fun i wr => ∃ j : Nat, j ≤ k ∧ i = .int .i64 j ∧ ∃ es vv, Hid (unpackTo l (p + 2) j = some es) ∧ Hid (Blk wr w.heap.size [.int .i64 T, .int .i64 B, .int .i64 sl, .int .i64 rm, .int .i64 104, .int .i64 32, .slice pa ws.length pc, .int .i64 sz]) ∧ Hid (Blk wr (w.heap.size + 1) [.int .i64 0, .int .i64 0, .int .i64 0, .slice none 0 0]) ∧ Hid (Blk wr DD [.int .i64 who, .int .i64 s2, .int .i64 t, vv]) ∧ Hid (Own wr V.heap.size 67 6 enE vv es) ∧ Hid (Ext w wr) ∧ V.heap.size ≤ wr.heap.size) (fun i _ => k - (intOf i).toNat)
 case atStart => exact ⟨0, by omega, rfl, [], _, hid rfl, HB3, HB6, HB11, hid Own.nil, HEx, Nat.le_refl _⟩
 case round =>
  clear HB3 HB6 HB11 HEx
  obtain ⟨j, hj, rfl, es, vv, HU, HB3, HB6, HBD, HO, HX, hcr⟩ := hrel
  have n1 := HB6.out.1
  have n2 := HBD.out.1
  by_cases hjk : j < k
  ·obtain ⟨x, hx⟩ : ∃ x, l[p + 2 + 3 * j]? = some x := ⟨l[p + 2 + 3 * j]'(by omega), List.getElem?_eq_getElem _⟩
   obtain ⟨y, hy⟩ : ∃ y, l[p + 2 + 3 * j + 1]? = some y := ⟨l[p + 2 + 3 * j + 1]'(by omega), List.getElem?_eq_getElem _⟩
   obtain ⟨z, hz⟩ : ∃ z, l[p + 2 + 3 * j + 2]? = some z := ⟨l[p + 2 + 3 * j + 2]'(by omega), List.getElem?_eq_getElem _⟩
   have HUn := hid (show unpackTo l (p + 2) (j + 1) = if unpackB x y z = true then some (es ++ [unpackE x y z]) else none by
    rw [unpackTo, HU.out, hx, hy, hz])
   obtain ⟨_, ⟨hx20, _⟩, _⟩ := HOk.out x (List.mem_of_getElem? hx)
   obtain ⟨x1, x2, x3⟩ := x
   obtain ⟨y1, y2, y3⟩ := y
   obtain ⟨z1, z2, z3⟩ := z
   dsimp only at hx20
   obtain ⟨_, b', o', hab, hbl', hc1⟩ := Sl.at (HV.out.of wdE_len HX.out) hx
   cases hab
   obtain ⟨_, b', o', hab, _, hc2⟩ := Sl.at (HV.out.of wdE_len HX.out) hy
   cases hab
   obtain ⟨_, b', o', hab, _, hc3⟩ := Sl.at (HV.out.of wdE_len HX.out) hz
   cases hab
   have m0 := hc1 0 (by omega)
   have m1 := hc1 1 (by omega)
   have m2 := hc1 2 (by omega)
   have m3 := hc2 0 (by omega)
   have m4 := hc2 1 (by omega)
   have m5 := hc2 2 (by omega)
   have m6 := hc3 0 (by omega)
   have m7 := hc3 1 (by omega)
   have m8 := hc3 2 (by omega)
   dsimp only [wdE] at m0 m1 m2 m3 m4 m5 m6 m7 m8
   simp only [Nat.add_zero, List.getElem?_cons_zero, List.getElem?_cons_succ] at m0 m1 m2 m3 m4 m5 m6 m7 m8
   have hk32 : (k : Int) ≤ 32 := by omega
   have hjj : (j : Int) < (k : Int) := by omega
   have b0 : (0 : Int) ≤ (p : Int) + 2 + 3 * (j : Int) := by omega
   have b1 : (p : Int) + 2 + 3 * (j : Int) < (l.length : Int) := by omega
   have b2 : (0 : Int) ≤ (p : Int) + 2 + 3 * (j : Int) + 1 := by omega
   have b3 : (p : Int) + 2 + 3 * (j : Int) + 1 < (l.length : Int) := by omega
   have b4 : (0 : Int) ≤ (p : Int) + 2 + 3 * (j : Int) + 2 := by omega
   have b5 : (p : Int) + 2 + 3 * (j : Int) + 2 < (l.length : Int) := by omega
   have b6 : ((p : Int) + 2 + 3 * (j : Int)).toNat = p + 2 + 3 * j := by omega
   have b7 : ((p : Int) + 2 + 3 * (j : Int) + 1).toNat = p + 2 + 3 * j + 1 := by omega
   have b8 : ((p : Int) + 2 + 3 * (j : Int) + 2).toNat = p + 2 + 3 * j + 2 := by omega
   have b9 : IntKind.i64.wrap ((p : Int) + 2 + 3 * (j : Int) + 1) = (p : Int) + 2 + 3 * (j : Int) + 1 ∧ IntKind.i64.wrap ((p : Int) + 2 + 3 * (j : Int) + 2) = (p : Int) + 2 + 3 * (j : Int) + 2 := ⟨IntWalk.i64_in _ (by omega), IntWalk.i64_in _ (by omega)⟩
   clear hc1 hc2 hc3 hx hy hz
   cases hU : unpackB (x1, x2, x3) (y1, y2, y3) (z1, z2, z3)
   ·have HUB := hid hU
    have HF := hid (show O = none by
     rw [HRd.out]
     have hn : unpackTo l (p + 2) (j + 1) = none := by rw [HUn.out, hU]; rfl
     rw [show k = (j + 1) + (k - (j + 1)) by omega, unpackTo_none hn])
    clear hU HUn HU HRd
    go_upto_region 14 with fail
    go_cut [14, 15] (fun a14 a15 wx => ∃ g : Nat, a14 = .pointer (some ⟨g, 0, none⟩) ∧ a15 = .bool false ∧ Blk wx g [.int .i64 0, .int .i64 0, .int .u32 0, .int .u32 0, .int .i64 0, .bool false] ∧ Ext wr wx ∧ wr.heap.size ≤ g)
    case first =>
     have HKp_ := hid (show ∀ w', Ext wr w' → (fun w' => w'.cell? ⟨bb, oo + (p + 2 + 3 * j) * 3, none⟩ = some (.int .i64 x1) ∧ w'.cell? ⟨bb, oo + (p + 2 + 3 * j) * 3 + 1, none⟩ = some (.int .u32 x2) ∧ w'.cell? ⟨bb, oo + (p + 2 + 3 * j) * 3 + 2, none⟩ = some (.int .u32 x3) ∧ w'.cell? ⟨bb, oo + (p + 2 + 3 * j + 1) * 3, none⟩ = some (.int .i64 y1) ∧ w'.cell? ⟨bb, oo + (p + 2 + 3 * j + 1) * 3 + 1, none⟩ = some (.int .u32 y2) ∧ w'.cell? ⟨bb, oo + (p + 2 + 3 * j + 1) * 3 + 2, none⟩ = some (.int .u32 y3) ∧ w'.cell? ⟨bb, oo + (p + 2 + 3 * j + 2) * 3, none⟩ = some (.int .i64 z1) ∧ w'.cell? ⟨bb, oo + (p + 2 + 3 * j + 2) * 3 + 1, none⟩ = some (.int .u32 z2) ∧ w'.cell? ⟨bb, oo + (p + 2 + 3 * j + 2) * 3 + 2, none⟩ = some (.int .u32 z3)) w' from fun w' hE_ => ⟨hE_.cell m0, hE_.cell m1, hE_.cell m2, hE_.cell m3, hE_.cell m4, hE_.cell m5, hE_.cell m6, hE_.cell m7, hE_.cell m8⟩)
     refine wp_region_held_drew (S := fun w' => w'.cell? ⟨bb, oo + (p + 2 + 3 * j) * 3, none⟩ = some (.int .i64 x1) ∧ w'.cell? ⟨bb, oo + (p + 2 + 3 * j) * 3 + 1, none⟩ = some (.int .u32 x2) ∧ w'.cell? ⟨bb, oo + (p + 2 + 3 * j) * 3 + 2, none⟩ = some (.int .u32 x3) ∧ w'.cell? ⟨bb, oo + (p + 2 + 3 * j + 1) * 3, none⟩ = some (.int .i64 y1) ∧ w'.cell? ⟨bb, oo + (p + 2 + 3 * j + 1) * 3 + 1, none⟩ = some (.int .u32 y2) ∧ w'.cell? ⟨bb, oo + (p + 2 + 3 * j + 1) * 3 + 2, none⟩ = some (.int .u32 y3) ∧ w'.cell? ⟨bb, oo + (p + 2 + 3 * j + 2) * 3, none⟩ = some (.int .i64 z1) ∧ w'.cell? ⟨bb, oo + (p + 2 + 3 * j + 2) * 3 + 1, none⟩ = some (.int .u32 z2) ∧ w'.cell? ⟨bb, oo + (p + 2 + 3 * j + 2) * 3 + 2, none⟩ = some (.int .u32 z3)) (by kernel_rfl) (by exact HKp_.out _ (by (show Ext _ _; repeat with_reducible first | (refine xH ?_; assumption) | exact xR _ | refine xX ?_ _ | refine xA ?_ _ | refine xD ?_ | refine xS ?_ (by (try dsimp only); first | omega | (simp; done) | (simp; omega)) _))) (fun hHeld => ?_)
     refine take_met 0 (oi := ⟨_, _, _, _, _, _⟩) (v := ?_) (by kernel_rfl) rfl (by rfl) (fun _ _ _ h => h) (by assumption) ?_ ?_
     rotate_left 1
     ·intro w hSw
      try dsimp only at hSw
      go_simp
      try with_reducible rfl
     (try simp only [Act.put, pA, pB, pC])
     refine take_met 1 (oi := ⟨_, _, _, _, _, _⟩) (v := ?_) (by kernel_rfl) rfl (by rfl) (fun _ _ _ h => h) (by assumption) ?_ ?_
     rotate_left 1
     ·intro w hSw
      try dsimp only at hSw
      go_simp
      try with_reducible rfl
     (try simp only [Act.put, pA, pB, pC])
     refine take_met 2 (oi := ⟨_, _, _, _, _, _⟩) (v := ?_) (by kernel_rfl) rfl (by rfl) (fun _ _ _ h => h) (by assumption) ?_ ?_
     rotate_left 1
     ·intro w hSw
      try dsimp only at hSw
      go_simp
      try with_reducible rfl
     (try simp only [Act.put, pA, pB, pC])
     refine take_met 3 (oi := ⟨_, _, _, _, _, _⟩) (v := ?_) (by kernel_rfl) rfl (by rfl) (fun _ _ _ h => h) (by assumption) ?_ ?_
     rotate_left 1
     ·intro w hSw
      try dsimp only at hSw
      go_simp
      try with_reducible rfl
     (try simp only [Act.put, pA, pB, pC])
     refine take_met 4 (oi := ⟨_, _, _, _, _, _⟩) (v := ?_) (by kernel_rfl) rfl (by rfl) (fun _ _ _ h => h) (by assumption) ?_ ?_
     rotate_left 1
     ·intro w hSw
      try dsimp only at hSw
      go_simp
      try with_reducible rfl
     (try simp only [Act.put, pA, pB, pC])
     refine take_met 5 (oi := ⟨_, _, _, _, _, _⟩) (v := ?_) (by kernel_rfl) rfl (by rfl) (fun _ _ _ h => h) (by assumption) ?_ ?_
     rotate_left 1
     ·intro w hSw
      try dsimp only at hSw
      go_simp
      try with_reducible rfl
     (try simp only [Act.put, pA, pB, pC])
     refine take_met 6 (oi := ⟨_, _, _, _, _, _⟩) (v := ?_) (by kernel_rfl) rfl (by rfl) (fun _ _ _ h => h) (by assumption) ?_ ?_
     rotate_left 1
     ·intro w hSw
      try dsimp only at hSw
      go_simp
      try with_reducible rfl
     (try simp only [Act.put, pA, pB, pC])
     refine take_met 7 (oi := ⟨_, _, _, _, _, _⟩) (v := ?_) (by kernel_rfl) rfl (by rfl) (fun _ _ _ h => h) (by assumption) ?_ ?_
     rotate_left 1
     ·intro w hSw
      try dsimp only at hSw
      go_simp
      try with_reducible rfl
     (try simp only [Act.put, pA, pB, pC])
     refine take_met 8 (oi := ⟨_, _, _, _, _, _⟩) (v := ?_) (by kernel_rfl) rfl (by rfl) (fun _ _ _ h => h) (by assumption) ?_ ?_
     rotate_left 1
     ·intro w hSw
      try dsimp only at hSw
      go_simp
      try with_reducible rfl
     (try simp only [Act.put, pA, pB, pC])
     refine take_met 9 (oi := ⟨_, _, _, _, _, _⟩) (v := ?_) (by kernel_rfl) rfl (by rfl) (fun _ _ _ h => h) (by assumption) ?_ ?_
     rotate_left 1
     ·intro w hSw
      try dsimp only at hSw
      go_simp
      try with_reducible rfl
     (try simp only [Act.put, pA, pB, pC])
     refine take_met 10 (oi := ⟨_, _, _, _, _, _⟩) (v := ?_) (by kernel_rfl) rfl (by rfl) (fun _ _ _ h => h) (by assumption) ?_ ?_
     rotate_left 1
     ·intro w hSw
      try dsimp only at hSw
      go_simp
      try with_reducible rfl
     (try simp only [Act.put, pA, pB, pC])
     refine take_met 11 (oi := ⟨_, _, _, _, _, _⟩) (v := ?_) (by kernel_rfl) rfl (by rfl) (fun _ _ _ h => h) (by assumption) ?_ ?_
     rotate_left 1
     ·intro w hSw
      try dsimp only at hSw
      go_simp
      try with_reducible rfl
     (try simp only [Act.put, pA, pB, pC])
     refine take_met 12 (oi := ⟨_, _, _, _, _, _⟩) (v := ?_) (by kernel_rfl) rfl (by rfl) (fun _ _ _ h => h) (by assumption) ?_ ?_
     rotate_left 1
     ·intro w hSw
      try dsimp only at hSw
      go_simp
      try with_reducible rfl
     (try simp only [Act.put, pA, pB, pC])
     refine take_met 13 (oi := ⟨_, _, _, _, _, _⟩) (v := ?_) (by kernel_rfl) rfl (by rfl) (fun _ _ _ h => h) (by assumption) ?_ ?_
     rotate_left 1
     ·intro w hSw
      try dsimp only at hSw
      go_simp
      try with_reducible rfl
     (try simp only [Act.put, pA, pB, pC])
     refine take_met 14 (oi := ⟨_, _, _, _, _, _⟩) (v := ?_) (by kernel_rfl) rfl (by rfl) (fun _ _ _ h => h) (by assumption) ?_ ?_
     rotate_left 1
     ·intro w hSw
      try dsimp only at hSw
      go_simp
      try with_reducible rfl
     (try simp only [Act.put, pA, pB, pC])
     refine wpAnyH_ready (rs := [15, 19]) (by kernel_rfl) (by simp) ?_
     refine AllReadyH.cons (o := ⟨_, _, _, _, _, _⟩) rfl (fun K hK => ?_) ?_
     ·
      go_simp
      first
       | (go_at_call 71; refine (runpack_any x1 x2 x3 y1 y2 y3 z1 z2 z3 hx20 _).mono ?_; rintro e w' ⟨rfl, r4, rfl⟩; rw [HUB.out]; simp only [Bool.false_eq_true, if_false])
      have hOld := hHeld
      clear hHeld
      refine hK.out _ _ (by exact HKp_.out _ (by (show Ext _ _; repeat with_reducible first | (refine xH ?_; assumption) | exact xR _ | refine xX ?_ _ | refine xA ?_ _ | refine xD ?_ | refine xS ?_ (by (try dsimp only); first | omega | (simp; done) | (simp; omega)) _))) (fun hHeld => ?_)
      clear hOld hK K
      (try simp only [Act.put, pA, pB, pC])
      refine take_met 16 (oi := ⟨_, _, _, _, _, _⟩) (v := ?_) (by kernel_rfl) rfl (by rfl) (fun _ _ _ h => h) (by assumption) ?_ ?_
      rotate_left 1
      ·intro w hSw
       try dsimp only at hSw
       go_simp
       try with_reducible rfl
      (try simp only [Act.put, pA, pB, pC])
      refine take_met 17 (oi := ⟨_, _, _, _, _, _⟩) (v := ?_) (by kernel_rfl) rfl (by rfl) (fun _ _ _ h => h) (by assumption) ?_ ?_
      rotate_left 1
      ·intro w hSw
       try dsimp only at hSw
       go_simp
       try with_reducible rfl
      (try simp only [Act.put, pA, pB, pC])
      refine take_met 18 (oi := ⟨_, _, _, _, _, _⟩) (v := ?_) (by kernel_rfl) rfl (by rfl) (fun _ _ _ h => h) (by assumption) ?_ ?_
      rotate_left 1
      ·intro w hSw
       try dsimp only at hSw
       go_simp
       try with_reducible rfl
      (try simp only [Act.put, pA, pB, pC])
      refine take_only 19 (oi := ⟨_, _, _, _, _, _⟩) (by kernel_rfl) rfl (fun K hK => ?_)
      go_simp
      have hOld := hHeld
      clear hHeld
      refine hK.out _ _ (by exact HKp_.out _ (by (show Ext _ _; repeat with_reducible first | (refine xH ?_; assumption) | exact xR _ | refine xX ?_ _ | refine xA ?_ _ | refine xD ?_ | refine xS ?_ (by (try dsimp only); first | omega | (simp; done) | (simp; omega)) _))) (fun hHeld => ?_)
      clear hOld hK K
      (try simp only [Act.put, pA, pB, pC])
      refine take_only 20 (oi := ⟨_, _, _, _, _, _⟩) (by kernel_rfl) rfl (fun K hK => ?_)
      go_simp
      have hOld := hHeld
      clear hHeld
      refine hK.out _ _ (by exact HKp_.out _ (by (show Ext _ _; repeat with_reducible first | (refine xH ?_; assumption) | exact xR _ | refine xX ?_ _ | refine xA ?_ _ | refine xD ?_ | refine xS ?_ (by (try dsimp only); first | omega | (simp; done) | (simp; omega)) _))) (fun hHeld => ?_)
      clear hOld hK K
      (try simp only [Act.put, pA, pB, pC])
      refine take_met 21 (oi := ⟨_, _, _, _, _, _⟩) (v := ?_) (by kernel_rfl) rfl (by rfl) (fun _ _ _ h => h) (by assumption) ?_ ?_
      rotate_left 1
      ·intro w hSw
       try dsimp only at hSw
       go_simp
       try with_reducible rfl
      (try simp only [Act.put, pA, pB, pC])
      refine wpAnyH_done (by kernel_rfl) ?_ _
      go_wp2_with fail
      go_meet
      exact ⟨_, rfl, rfl, by (show Blk _ _ _; repeat first | (with_reducible first | (refine xH ?_; assumption) | apply bD | apply bX) | ((with_reducible refine bN _ _ rfl ?_); first | with_reducible rfl | focus (simp; done)) | ((with_reducible apply bE); first | with_reducible rfl | focus (simp; done)) | (with_reducible first | apply bA | assumption | apply bS) | ((with_reducible refine bO ?_ ?_); first | omega | (simp; omega)) | (show List.set _ _ _ = _; exact rfl) | focus (show _ < List.length _; simp; done)), by (show Ext _ _; repeat with_reducible first | (refine xH ?_; assumption) | exact xR _ | refine xX ?_ _ | refine xA ?_ _ | refine xD ?_ | refine xS ?_ (by (try dsimp only); first | omega | (simp; done) | (simp; omega)) _), by omega⟩
     refine AllReadyH.cons (o := ⟨_, _, _, _, _, _⟩) rfl (fun K hK => ?_) AllReadyH.nil
     go_simp
     have hOld := hHeld
     clear hHeld
     refine hK.out _ _ (by exact HKp_.out _ (by (show Ext _ _; repeat with_reducible first | (refine xH ?_; assumption) | exact xR _ | refine xX ?_ _ | refine xA ?_ _ | refine xD ?_ | refine xS ?_ (by (try dsimp only); first | omega | (simp; done) | (simp; omega)) _))) (fun hHeld => ?_)
     clear hOld hK K
     (try simp only [Act.put, pA, pB, pC])
     refine take_only 15 (oi := ⟨_, _, _, _, _, _⟩) (by kernel_rfl) rfl (fun K hK => ?_)
     go_simp
     first
      | (go_at_call 71; refine (runpack_any x1 x2 x3 y1 y2 y3 z1 z2 z3 hx20 _).mono ?_; rintro e w' ⟨rfl, r4, rfl⟩; rw [HUB.out]; simp only [Bool.false_eq_true, if_false])
     have hOld := hHeld
     clear hHeld
     refine hK.out _ _ (by exact HKp_.out _ (by (show Ext _ _; repeat with_reducible first | (refine xH ?_; assumption) | exact xR _ | refine xX ?_ _ | refine xA ?_ _ | refine xD ?_ | refine xS ?_ (by (try dsimp only); first | omega | (simp; done) | (simp; omega)) _))) (fun hHeld => ?_)
     clear hOld hK K
     (try simp only [Act.put, pA, pB, pC])
     refine take_met 16 (oi := ⟨_, _, _, _, _, _⟩) (v := ?_) (by kernel_rfl) rfl (by rfl) (fun _ _ _ h => h) (by assumption) ?_ ?_
     rotate_left 1
     ·intro w hSw
      try dsimp only at hSw
      go_simp
      try with_reducible rfl
     (try simp only [Act.put, pA, pB, pC])
     refine take_met 17 (oi := ⟨_, _, _, _, _, _⟩) (v := ?_) (by kernel_rfl) rfl (by rfl) (fun _ _ _ h => h) (by assumption) ?_ ?_
     rotate_left 1
     ·intro w hSw
      try dsimp only at hSw
      go_simp
      try with_reducible rfl
     (try simp only [Act.put, pA, pB, pC])
     refine take_met 18 (oi := ⟨_, _, _, _, _, _⟩) (v := ?_) (by kernel_rfl) rfl (by rfl) (fun _ _ _ h => h) (by assumption) ?_ ?_
     rotate_left 1
     ·intro w hSw
      try dsimp only at hSw
      go_simp
      try with_reducible rfl
     (try simp only [Act.put, pA, pB, pC])
     refine take_only 20 (oi := ⟨_, _, _, _, _, _⟩) (by kernel_rfl) rfl (fun K hK => ?_)
     go_simp
     have hOld := hHeld
     clear hHeld
     refine hK.out _ _ (by exact HKp_.out _ (by (show Ext _ _; repeat with_reducible first | (refine xH ?_; assumption) | exact xR _ | refine xX ?_ _ | refine xA ?_ _ | refine xD ?_ | refine xS ?_ (by (try dsimp only); first | omega | (simp; done) | (simp; omega)) _))) (fun hHeld => ?_)
     clear hOld hK K
     (try simp only [Act.put, pA, pB, pC])
     refine take_met 21 (oi := ⟨_, _, _, _, _, _⟩) (v := ?_) (by kernel_rfl) rfl (by rfl) (fun _ _ _ h => h) (by assumption) ?_ ?_
     rotate_left 1
     ·intro w hSw
      try dsimp only at hSw
      go_simp
      try with_reducible rfl
     (try simp only [Act.put, pA, pB, pC])
     refine wpAnyH_done (by kernel_rfl) ?_ _
     go_wp2_with fail
     go_meet
     exact ⟨_, rfl, rfl, by (show Blk _ _ _; repeat first | (with_reducible first | (refine xH ?_; assumption) | apply bD | apply bX) | ((with_reducible refine bN _ _ rfl ?_); first | with_reducible rfl | focus (simp; done)) | ((with_reducible apply bE); first | with_reducible rfl | focus (simp; done)) | (with_reducible first | apply bA | assumption | apply bS) | ((with_reducible refine bO ?_ ?_); first | omega | (simp; omega)) | (show List.set _ _ _ = _; exact rfl) | focus (show _ < List.length _; simp; done)), by (show Ext _ _; repeat with_reducible first | (refine xH ?_; assumption) | exact xR _ | refine xX ?_ _ | refine xA ?_ _ | refine xD ?_ | refine xS ?_ (by (try dsimp only); first | omega | (simp; done) | (simp; omega)) _), by omega⟩
    case rest =>
     obtain ⟨g, rfl, rfl, hbg, hxw, hlg⟩ := hcut
     have HG := hid hbg
     have HX2 := hid hxw
     have HXX := hid (HX.out.trans hxw)
     clear hbg hxw m0 m1 m2 m3 m4 m5 m6 m7 m8 b0 b1 b2 b3 b4 b5 b6 b7 b8 b9
     obtain ⟨d0, d1, d2, d3⟩ := (HB6.out.of HX2.out).four
     have d4 := (HB6.out.of HX2.out).2.1 0
     have d5 := (HB6.out.of HX2.out).2.1 1
     have d6 := (HB6.out.of HX2.out).2.1 2
     have d7 := (HB6.out.of HX2.out).2.1 3
     have d8 := (HB6.out.of HX2.out).1
     (repeat (first | go_values | go_skip | go_guarded | go_step | go_upon | (simp only [Int.not_lt, Int.not_le] at *; go_simp) | (go_ite <;> go_prune <;> (try go_simp))))
     exact bodyPost_ret (v := .tuple #[.agg #[.int .i64 0, .int .i64 0, .int .i64 0, .slice none 0 0], .bool false]) (by simp [results, Tryd.results65, go_sem, d0, d1, d2, d3, d8]) rfl (RRP.no HF.out (by (show Ext _ _; repeat with_reducible first | (refine xH ?_; assumption) | exact xR _ | refine xX ?_ _ | refine xA ?_ _ | refine xD ?_ | refine xS ?_ (by (try dsimp only); first | omega | (simp; done) | (simp; omega)) _)))
   ·have HUB := hid hU
    have HUn2 := hid (show unpackTo l (p + 2) (j + 1) = some (es ++ [⟨x1, y1, y2, y3, z1, x2 == 1⟩]) by rw [HUn.out, hU]; rfl)
    have hln := unpackTo_len HU.out
    have HLn := hid (show es.length + 1 ≤ 1000000 by rw [hln]; omega)
    clear hU HUn HU hln
    obtain ⟨av, cv, rfl⟩ := Own.shape HO.out
    go_upto_region 14 with fail
    go_cut [14, 15] (fun a14 a15 wx => ∃ g : Nat, a14 = .pointer (some ⟨g, 0, none⟩) ∧ a15 = .bool true ∧ Blk wx g [.int .i64 x1, .int .i64 y1, .int .u32 y2, .int .u32 y3, .int .i64 z1, .bool (x2 == 1)] ∧ Ext wr wx ∧ wr.heap.size ≤ g)
    case first =>
     have HKp_ := hid (show ∀ w', Ext wr w' → (fun w' => w'.cell? ⟨bb, oo + (p + 2 + 3 * j) * 3, none⟩ = some (.int .i64 x1) ∧ w'.cell? ⟨bb, oo + (p + 2 + 3 * j) * 3 + 1, none⟩ = some (.int .u32 x2) ∧ w'.cell? ⟨bb, oo + (p + 2 + 3 * j) * 3 + 2, none⟩ = some (.int .u32 x3) ∧ w'.cell? ⟨bb, oo + (p + 2 + 3 * j + 1) * 3, none⟩ = some (.int .i64 y1) ∧ w'.cell? ⟨bb, oo + (p + 2 + 3 * j + 1) * 3 + 1, none⟩ = some (.int .u32 y2) ∧ w'.cell? ⟨bb, oo + (p + 2 + 3 * j + 1) * 3 + 2, none⟩ = some (.int .u32 y3) ∧ w'.cell? ⟨bb, oo + (p + 2 + 3 * j + 2) * 3, none⟩ = some (.int .i64 z1) ∧ w'.cell? ⟨bb, oo + (p + 2 + 3 * j + 2) * 3 + 1, none⟩ = some (.int .u32 z2) ∧ w'.cell? ⟨bb, oo + (p + 2 + 3 * j + 2) * 3 + 2, none⟩ = some (.int .u32 z3)) w' from fun w' hE_ => ⟨hE_.cell m0, hE_.cell m1, hE_.cell m2, hE_.cell m3, hE_.cell m4, hE_.cell m5, hE_.cell m6, hE_.cell m7, hE_.cell m8⟩)
     refine wp_region_held_drew (S := fun w' => w'.cell? ⟨bb, oo + (p + 2 + 3 * j) * 3, none⟩ = some (.int .i64 x1) ∧ w'.cell? ⟨bb, oo + (p + 2 + 3 * j) * 3 + 1, none⟩ = some (.int .u32 x2) ∧ w'.cell? ⟨bb, oo + (p + 2 + 3 * j) * 3 + 2, none⟩ = some (.int .u32 x3) ∧ w'.cell? ⟨bb, oo + (p + 2 + 3 * j + 1) * 3, none⟩ = some (.int .i64 y1) ∧ w'.cell? ⟨bb, oo + (p + 2 + 3 * j + 1) * 3 + 1, none⟩ = some (.int .u32 y2) ∧ w'.cell? ⟨bb, oo + (p + 2 + 3 * j + 1) * 3 + 2, none⟩ = some (.int .u32 y3) ∧ w'.cell? ⟨bb, oo + (p + 2 + 3 * j + 2) * 3, none⟩ = some (.int .i64 z1) ∧ w'.cell? ⟨bb, oo + (p + 2 + 3 * j + 2) * 3 + 1, none⟩ = some (.int .u32 z2) ∧ w'.cell? ⟨bb, oo + (p + 2 + 3 * j + 2) * 3 + 2, none⟩ = some (.int .u32 z3)) (by kernel_rfl) (by exact HKp_.out _ (by (show Ext _ _; repeat with_reducible first | (refine xH ?_; assumption) | exact xR _ | refine xX ?_ _ | refine xA ?_ _ | refine xD ?_ | refine xS ?_ (by (try dsimp only); first | omega | (simp; done) | (simp; omega)) _))) (fun hHeld => ?_)
     refine take_met 0 (oi := ⟨_, _, _, _, _, _⟩) (v := ?_) (by kernel_rfl) rfl (by rfl) (fun _ _ _ h => h) (by assumption) ?_ ?_
     rotate_left 1
     ·intro w hSw
      try dsimp only at hSw
      go_simp
      try with_reducible rfl
     (try simp only [Act.put, pA, pB, pC])
     refine take_met 1 (oi := ⟨_, _, _, _, _, _⟩) (v := ?_) (by kernel_rfl) rfl (by rfl) (fun _ _ _ h => h) (by assumption) ?_ ?_
     rotate_left 1
     ·intro w hSw
      try dsimp only at hSw
      go_simp
      try with_reducible rfl
     (try simp only [Act.put, pA, pB, pC])
     refine take_met 2 (oi := ⟨_, _, _, _, _, _⟩) (v := ?_) (by kernel_rfl) rfl (by rfl) (fun _ _ _ h => h) (by assumption) ?_ ?_
     rotate_left 1
     ·intro w hSw
      try dsimp only at hSw
      go_simp
      try with_reducible rfl
     (try simp only [Act.put, pA, pB, pC])
     refine take_met 3 (oi := ⟨_, _, _, _, _, _⟩) (v := ?_) (by kernel_rfl) rfl (by rfl) (fun _ _ _ h => h) (by assumption) ?_ ?_
     rotate_left 1
     ·intro w hSw
      try dsimp only at hSw
      go_simp
      try with_reducible rfl
     (try simp only [Act.put, pA, pB, pC])
     refine take_met 4 (oi := ⟨_, _, _, _, _, _⟩) (v := ?_) (by kernel_rfl) rfl (by rfl) (fun _ _ _ h => h) (by assumption) ?_ ?_
     rotate_left 1
     ·intro w hSw
      try dsimp only at hSw
      go_simp
      try with_reducible rfl
     (try simp only [Act.put, pA, pB, pC])
     refine take_met 5 (oi := ⟨_, _, _, _, _, _⟩) (v := ?_) (by kernel_rfl) rfl (by rfl) (fun _ _ _ h => h) (by assumption) ?_ ?_
     rotate_left 1
     ·intro w hSw
      try dsimp only at hSw
      go_simp
      try with_reducible rfl
     (try simp only [Act.put, pA, pB, pC])
     refine take_met 6 (oi := ⟨_, _, _, _, _, _⟩) (v := ?_) (by kernel_rfl) rfl (by rfl) (fun _ _ _ h => h) (by assumption) ?_ ?_
     rotate_left 1
     ·intro w hSw
      try dsimp only at hSw
      go_simp
      try with_reducible rfl
     (try simp only [Act.put, pA, pB, pC])
     refine take_met 7 (oi := ⟨_, _, _, _, _, _⟩) (v := ?_) (by kernel_rfl) rfl (by rfl) (fun _ _ _ h => h) (by assumption) ?_ ?_
     rotate_left 1
     ·intro w hSw
      try dsimp only at hSw
      go_simp
      try with_reducible rfl
     (try simp only [Act.put, pA, pB, pC])
     refine take_met 8 (oi := ⟨_, _, _, _, _, _⟩) (v := ?_) (by kernel_rfl) rfl (by rfl) (fun _ _ _ h => h) (by assumption) ?_ ?_
     rotate_left 1
     ·intro w hSw
      try dsimp only at hSw
      go_simp
      try with_reducible rfl
     (try simp only [Act.put, pA, pB, pC])
     refine take_met 9 (oi := ⟨_, _, _, _, _, _⟩) (v := ?_) (by kernel_rfl) rfl (by rfl) (fun _ _ _ h => h) (by assumption) ?_ ?_
     rotate_left 1
     ·intro w hSw
      try dsimp only at hSw
      go_simp
      try with_reducible rfl
     (try simp only [Act.put, pA, pB, pC])
     refine take_met 10 (oi := ⟨_, _, _, _, _, _⟩) (v := ?_) (by kernel_rfl) rfl (by rfl) (fun _ _ _ h => h) (by assumption) ?_ ?_
     rotate_left 1
     ·intro w hSw
      try dsimp only at hSw
      go_simp
      try with_reducible rfl
     (try simp only [Act.put, pA, pB, pC])
     refine take_met 11 (oi := ⟨_, _, _, _, _, _⟩) (v := ?_) (by kernel_rfl) rfl (by rfl) (fun _ _ _ h => h) (by assumption) ?_ ?_
     rotate_left 1
     ·intro w hSw
      try dsimp only at hSw
      go_simp
      try with_reducible rfl
     (try simp only [Act.put, pA, pB, pC])
     refine take_met 12 (oi := ⟨_, _, _, _, _, _⟩) (v := ?_) (by kernel_rfl) rfl (by rfl) (fun _ _ _ h => h) (by assumption) ?_ ?_
     rotate_left 1
     ·intro w hSw
      try dsimp only at hSw
      go_simp
      try with_reducible rfl
     (try simp only [Act.put, pA, pB, pC])
     refine take_met 13 (oi := ⟨_, _, _, _, _, _⟩) (v := ?_) (by kernel_rfl) rfl (by rfl) (fun _ _ _ h => h) (by assumption) ?_ ?_
     rotate_left 1
     ·intro w hSw
      try dsimp only at hSw
      go_simp
      try with_reducible rfl
     (try simp only [Act.put, pA, pB, pC])
     refine take_met 14 (oi := ⟨_, _, _, _, _, _⟩) (v := ?_) (by kernel_rfl) rfl (by rfl) (fun _ _ _ h => h) (by assumption) ?_ ?_
     rotate_left 1
     ·intro w hSw
      try dsimp only at hSw
      go_simp
      try with_reducible rfl
     (try simp only [Act.put, pA, pB, pC])
     refine wpAnyH_ready (rs := [15, 19]) (by kernel_rfl) (by simp) ?_
     refine AllReadyH.cons (o := ⟨_, _, _, _, _, _⟩) rfl (fun K hK => ?_) ?_
     ·
      go_simp
      first
       | (go_at_call 71; refine (runpack_any x1 x2 x3 y1 y2 y3 z1 z2 z3 hx20 _).mono ?_; rintro e w' ⟨rfl, r4, rfl⟩; rw [HUB.out]; simp only [if_true])
      have hOld := hHeld
      clear hHeld
      refine hK.out _ _ (by exact HKp_.out _ (by (show Ext _ _; repeat with_reducible first | (refine xH ?_; assumption) | exact xR _ | refine xX ?_ _ | refine xA ?_ _ | refine xD ?_ | refine xS ?_ (by (try dsimp only); first | omega | (simp; done) | (simp; omega)) _))) (fun hHeld => ?_)
      clear hOld hK K
      (try simp only [Act.put, pA, pB, pC])
      refine take_met 16 (oi := ⟨_, _, _, _, _, _⟩) (v := ?_) (by kernel_rfl) rfl (by rfl) (fun _ _ _ h => h) (by assumption) ?_ ?_
      rotate_left 1
      ·intro w hSw
       try dsimp only at hSw
       go_simp
       try with_reducible rfl
      (try simp only [Act.put, pA, pB, pC])
      refine take_met 17 (oi := ⟨_, _, _, _, _, _⟩) (v := ?_) (by kernel_rfl) rfl (by rfl) (fun _ _ _ h => h) (by assumption) ?_ ?_
      rotate_left 1
      ·intro w hSw
       try dsimp only at hSw
       go_simp
       try with_reducible rfl
      (try simp only [Act.put, pA, pB, pC])
      refine take_met 18 (oi := ⟨_, _, _, _, _, _⟩) (v := ?_) (by kernel_rfl) rfl (by rfl) (fun _ _ _ h => h) (by assumption) ?_ ?_
      rotate_left 1
      ·intro w hSw
       try dsimp only at hSw
       go_simp
       try with_reducible rfl
      (try simp only [Act.put, pA, pB, pC])
      refine take_only 19 (oi := ⟨_, _, _, _, _, _⟩) (by kernel_rfl) rfl (fun K hK => ?_)
      go_simp
      have hOld := hHeld
      clear hHeld
      refine hK.out _ _ (by exact HKp_.out _ (by (show Ext _ _; repeat with_reducible first | (refine xH ?_; assumption) | exact xR _ | refine xX ?_ _ | refine xA ?_ _ | refine xD ?_ | refine xS ?_ (by (try dsimp only); first | omega | (simp; done) | (simp; omega)) _))) (fun hHeld => ?_)
      clear hOld hK K
      (try simp only [Act.put, pA, pB, pC])
      refine take_only 20 (oi := ⟨_, _, _, _, _, _⟩) (by kernel_rfl) rfl (fun K hK => ?_)
      go_simp
      have hOld := hHeld
      clear hHeld
      refine hK.out _ _ (by exact HKp_.out _ (by (show Ext _ _; repeat with_reducible first | (refine xH ?_; assumption) | exact xR _ | refine xX ?_ _ | refine xA ?_ _ | refine xD ?_ | refine xS ?_ (by (try dsimp only); first | omega | (simp; done) | (simp; omega)) _))) (fun hHeld => ?_)
      clear hOld hK K
      (try simp only [Act.put, pA, pB, pC])
      refine take_met 21 (oi := ⟨_, _, _, _, _, _⟩) (v := ?_) (by kernel_rfl) rfl (by rfl) (fun _ _ _ h => h) (by assumption) ?_ ?_
      rotate_left 1
      ·intro w hSw
       try dsimp only at hSw
       go_simp
       try with_reducible rfl
      (try simp only [Act.put, pA, pB, pC])
      refine wpAnyH_done (by kernel_rfl) ?_ _
      go_wp2_with fail
      go_meet
      exact ⟨_, rfl, rfl, by (show Blk _ _ _; repeat first | (with_reducible first | (refine xH ?_; assumption) | apply bD | apply bX) | ((with_reducible refine bN _ _ rfl ?_); first | with_reducible rfl | focus (simp; done)) | ((with_reducible apply bE); first | with_reducible rfl | focus (simp; done)) | (with_reducible first | apply bA | assumption | apply bS) | ((with_reducible refine bO ?_ ?_); first | omega | (simp; omega)) | (show List.set _ _ _ = _; exact rfl) | focus (show _ < List.length _; simp; done)), by (show Ext _ _; repeat with_reducible first | (refine xH ?_; assumption) | exact xR _ | refine xX ?_ _ | refine xA ?_ _ | refine xD ?_ | refine xS ?_ (by (try dsimp only); first | omega | (simp; done) | (simp; omega)) _), by omega⟩
     refine AllReadyH.cons (o := ⟨_, _, _, _, _, _⟩) rfl (fun K hK => ?_) AllReadyH.nil
     go_simp
     have hOld := hHeld
     clear hHeld
     refine hK.out _ _ (by exact HKp_.out _ (by (show Ext _ _; repeat with_reducible first | (refine xH ?_; assumption) | exact xR _ | refine xX ?_ _ | refine xA ?_ _ | refine xD ?_ | refine xS ?_ (by (try dsimp only); first | omega | (simp; done) | (simp; omega)) _))) (fun hHeld => ?_)
     clear hOld hK K
     (try simp only [Act.put, pA, pB, pC])
     refine take_only 15 (oi := ⟨_, _, _, _, _, _⟩) (by kernel_rfl) rfl (fun K hK => ?_)
     go_simp
     first
      | (go_at_call 71; refine (runpack_any x1 x2 x3 y1 y2 y3 z1 z2 z3 hx20 _).mono ?_; rintro e w' ⟨rfl, r4, rfl⟩; rw [HUB.out]; simp only [if_true])
     have hOld := hHeld
     clear hHeld
     refine hK.out _ _ (by exact HKp_.out _ (by (show Ext _ _; repeat with_reducible first | (refine xH ?_; assumption) | exact xR _ | refine xX ?_ _ | refine xA ?_ _ | refine xD ?_ | refine xS ?_ (by (try dsimp only); first | omega | (simp; done) | (simp; omega)) _))) (fun hHeld => ?_)
     clear hOld hK K
     (try simp only [Act.put, pA, pB, pC])
     refine take_met 16 (oi := ⟨_, _, _, _, _, _⟩) (v := ?_) (by kernel_rfl) rfl (by rfl) (fun _ _ _ h => h) (by assumption) ?_ ?_
     rotate_left 1
     ·intro w hSw
      try dsimp only at hSw
      go_simp
      try with_reducible rfl
     (try simp only [Act.put, pA, pB, pC])
     refine take_met 17 (oi := ⟨_, _, _, _, _, _⟩) (v := ?_) (by kernel_rfl) rfl (by rfl) (fun _ _ _ h => h) (by assumption) ?_ ?_
     rotate_left 1
     ·intro w hSw
      try dsimp only at hSw
      go_simp
      try with_reducible rfl
     (try simp only [Act.put, pA, pB, pC])
     refine take_met 18 (oi := ⟨_, _, _, _, _, _⟩) (v := ?_) (by kernel_rfl) rfl (by rfl) (fun _ _ _ h => h) (by assumption) ?_ ?_
     rotate_left 1
     ·intro w hSw
      try dsimp only at hSw
      go_simp
      try with_reducible rfl
     (try simp only [Act.put, pA, pB, pC])
     refine take_only 20 (oi := ⟨_, _, _, _, _, _⟩) (by kernel_rfl) rfl (fun K hK => ?_)
     go_simp
     have hOld := hHeld
     clear hHeld
     refine hK.out _ _ (by exact HKp_.out _ (by (show Ext _ _; repeat with_reducible first | (refine xH ?_; assumption) | exact xR _ | refine xX ?_ _ | refine xA ?_ _ | refine xD ?_ | refine xS ?_ (by (try dsimp only); first | omega | (simp; done) | (simp; omega)) _))) (fun hHeld => ?_)
     clear hOld hK K
     (try simp only [Act.put, pA, pB, pC])
     refine take_met 21 (oi := ⟨_, _, _, _, _, _⟩) (v := ?_) (by kernel_rfl) rfl (by rfl) (fun _ _ _ h => h) (by assumption) ?_ ?_
     rotate_left 1
     ·intro w hSw
      try dsimp only at hSw
      go_simp
      try with_reducible rfl
     (try simp only [Act.put, pA, pB, pC])
     refine wpAnyH_done (by kernel_rfl) ?_ _
     go_wp2_with fail
     go_meet
     exact ⟨_, rfl, rfl, by (show Blk _ _ _; repeat first | (with_reducible first | (refine xH ?_; assumption) | apply bD | apply bX) | ((with_reducible refine bN _ _ rfl ?_); first | with_reducible rfl | focus (simp; done)) | ((with_reducible apply bE); first | with_reducible rfl | focus (simp; done)) | (with_reducible first | apply bA | assumption | apply bS) | ((with_reducible refine bO ?_ ?_); first | omega | (simp; omega)) | (show List.set _ _ _ = _; exact rfl) | focus (show _ < List.length _; simp; done)), by (show Ext _ _; repeat with_reducible first | (refine xH ?_; assumption) | exact xR _ | refine xX ?_ _ | refine xA ?_ _ | refine xD ?_ | refine xS ?_ (by (try dsimp only); first | omega | (simp; done) | (simp; omega)) _), by omega⟩
    case rest =>
     obtain ⟨g, rfl, rfl, hbg, hxw, hlg⟩ := hcut
     have HG := hid hbg
     have HX2 := hid hxw
     have HXX := hid (HX.out.trans hxw)
     clear hbg hxw m0 m1 m2 m3 m4 m5 m6 m7 m8 b0 b1 b2 b3 b4 b5 b6 b7 b8 b9
     obtain ⟨e0, e1, e2, e3, e4, e5⟩ := HG.out.six
     have e6 := HG.out.1
     have f3 := (HBD.out.of HX2.out).2.2 3 _ rfl
     have f4 := (HBD.out.of HX2.out).2.1 3
     have f5 := (HBD.out.of HX2.out).1
     have hcx : V.heap.size ≤ wc.heap.size := Nat.le_trans hcr HX2.out.size
     have HOx := hid (HO.out.of_ext HX2.out)
     go_wp2_with (at_builtin; refine es_append_b rfl _ _ rfl w (HXX.out.trans (by (show Ext _ _; repeat first | (with_reducible first | (refine xH ?_; assumption) | exact xR _ | refine xX ?_ _ | refine xA ?_ _) | refine xD ?_ | refine xN ?_ _ | exact xR _))) (by omega) (by (first | exact Nat.le_refl _ | (simp; done) | (simp; omega))) rfl (Own.alloc HOx.out _) _ 1 1 rfl [⟨x1, y1, y2, y3, z1, x2 == 1⟩] rfl (news_new rfl _ (by (first | rfl | (simp; done)))) HLn.out ?_; rintro v9 w9 hv9 hX9 hB9; obtain ⟨a9, c9, rfl⟩ := Own.shape hv9; have HB9 := hid hB9; have HX9 := hid hX9; simp only [List.length_append, List.length_cons, List.length_nil, Nat.zero_add] at hv9; have HV9 := hid hv9; have HD9 := hid (Blk.below ((HBD.out.of HX2.out).alloc _) (by omega) hB9); clear hB9 hX9 hv9; have q0 := HD9.out.2.2 3 _ rfl; have q1 := HD9.out.2.1 3)
     go_roundw
     case rel => exact ⟨j + 1, by omega, by go_num, _, _, HUn2, hid ((Blk.below ((HB3.out.of HX2.out).alloc _) (by omega) HB9.out).other (by omega) _), hid ((Blk.below ((HB6.out.of HX2.out).alloc _) (by omega) HB9.out).other (by omega) _), hid (HD9.out.set 3 (by simp) _), hid (HV9.out.under (by omega) _), hid (by (show Ext _ _; repeat with_reducible first | (refine xH ?_; assumption) | exact xR _ | refine xX ?_ _ | refine xA ?_ _ | refine xD ?_ | refine xS ?_ (by (try dsimp only); first | omega | (simp; done) | (simp; omega)) _)), by rw [World.size_setCell]; exact Nat.le_trans hcx (Nat.le_trans (by (first | exact Nat.le_refl _ | (simp; done) | (simp; omega))) HB9.out.size)⟩
     case measure => simp [intOf]; omega
  ·obtain rfl : k = j := by omega
   have hkk : decide ((k : Int) < (k : Int)) = false := by simp
   have hln := unpackTo_len HU.out
   have HLn := hid (show es.length ≤ 100 by omega)
   have HL2 := hid hln
   clear hln
   obtain ⟨av, cv, rfl⟩ := Own.shape HO.out
   obtain ⟨d0, d1, d2, d3⟩ := HBD.out.four
   have HRe := hid (show O = if sameTo l (wordsW s2 t es) p (2 + 3 * k) = true ∧ fitsB T B sl rm ws who s2 t es = true then some (s2, t, es) else none by rw [HRd.out, HU.out])
   clear HRd
   have hwl := hid (show (wordsW s2 t es).length = 2 + 3 * k by unfold wordsW; rw [List.length_append, bodyW_len, HL2.out]; rfl)
   go_wp2_with fail
   refine (rfw_any who s2 t (by omega) (by omega) es _ HLn.out _ ((Sl.of_own enE_len HO.out).of enE_len (by (show Ext _ _; repeat first | (with_reducible first | (refine xH ?_; assumption) | exact xR _ | refine xX ?_ _ | refine xA ?_ _) | refine xD ?_ | refine xN ?_ _ | exact xR _)))).mono ?_
   rintro e w' ⟨v5, rfl, ⟨r5, rfl⟩, hv5⟩
   obtain ⟨g5, c5, rfl, hg5, hg6⟩ := Ws.open hv5 (by rw [hwl.out]; omega)
   rw [hwl.out] at hv5 ⊢
   have HX5 := hid (Sl.of_own wdE_len hv5)
   clear hv5
   generalize hW2 : ext _ r5 = W2
   have HE2 := hid (show Ext wr W2 by rw [← hW2]; (show Ext _ _; repeat first | (with_reducible first | (refine xH ?_; assumption) | exact xR _ | refine xX ?_ _ | refine xA ?_ _) | refine xD ?_ | refine xN ?_ _ | exact xR _))
   have HX6 := hid (show Sl W2 3 wdE (.slice (some ⟨g5, 0, none⟩) (2 + 3 * k) c5) (wordsW s2 t es) by rw [← hW2]; exact HX5.out)
   clear hW2 HX5
   have HB3b := hid (HB3.out.of HE2.out)
   have HB6b := hid (HB6.out.of HE2.out)
   have HBDb := hid (HBD.out.of HE2.out)
   have HOb := hid (HO.out.of_ext HE2.out)
   have HXb := hid (HX.out.trans HE2.out)
   have hcb := Nat.le_trans hcr HE2.out.size
   clear d0 d1 d2 d3 HB3 HB6 HBD HO n1 n2 hcr
   go_wp2_with fail
   obtain ⟨m, hm9⟩ : ∃ m, m = 2 + 3 * k := ⟨_, rfl⟩
   rw [← hm9] at HX6 HRe hwl ⊢
   have hmp : p + m ≤ l.length := by omega
   have HM := hid hm9
   have hm100 : m ≤ 100 := by omega
   clear hm9
   go_loopw [17] (fun i wr2 => ∃ i2 : Nat, i2 ≤ m ∧ i = .int .i64 i2 ∧ Hid (sameTo l (wordsW s2 t es) p i2 = true) ∧ Hid (Ext W2 wr2)) (fun i _ => m - (intOf i).toNat)
   case atStart => exact ⟨0, by omega, rfl, hid rfl, hid (by (show Ext _ _; repeat first | (with_reducible first | (refine xH ?_; assumption) | exact xR _ | refine xX ?_ _ | refine xA ?_ _) | refine xD ?_ | refine xN ?_ _ | exact xR _))⟩
   case round =>
    obtain ⟨i, hi, rfl, HSm, HX3⟩ := hrel
    have HXc := hid (HXb.out.trans HX3.out)
    by_cases him : i < m
    ·have hd : decide (i < m) = true := decide_eq_true him
     obtain ⟨x, hx⟩ : ∃ x, l[p + i]? = some x := ⟨_, List.getElem?_eq_getElem (by omega)⟩
     obtain ⟨y, hy⟩ : ∃ y, (wordsW s2 t es)[i]? = some y := ⟨_, List.getElem?_eq_getElem (by rw [hwl.out]; omega)⟩
     have HA := hid (sameTo_at hx hy)
     obtain ⟨_, b', o', hab, hbl', hc1⟩ := Sl.at (HV.out.of wdE_len HXc.out) hx
     cases hab
     obtain ⟨geq, b5, o5, hab, hbl5, hc2⟩ := Sl.at (HX6.out.of wdE_len HX3.out) hy
     cases hab
     clear geq
     obtain ⟨x1, x2, x3⟩ := x
     obtain ⟨y1, y2, y3⟩ := y
     have m0 := hc1 0 (by omega)
     have m1 := hc1 1 (by omega)
     have m2 := hc1 2 (by omega)
     have m3 := hc2 0 (by omega)
     have m4 := hc2 1 (by omega)
     have m5 := hc2 2 (by omega)
     simp [wdE] at m0 m1 m2 m3 m4 m5
     have hn1 := neq_word x1 x2 x3 y1 y2 y3
     have hga := eq_guard_word
     have b0 : (0 : Int) ≤ (p : Int) + (i : Int) := by omega
     have b1 : (p : Int) + (i : Int) < (l.length : Int) := by omega
     have b2 : ((p : Int) + (i : Int)).toNat = p + i := by omega
     have b3 : IntKind.i64.wrap ((p : Int) + (i : Int)) = (p : Int) + (i : Int) := IntWalk.i64_in _ (by omega)
     have b4 : (i : Int) < (m : Int) := by omega
     clear hc1 hc2 hx hy
     cases hb : wdB (x1, x2, x3) (y1, y2, y3)
     ·have HF := hid (show O = none by
       rw [HRe.out, if_neg]
       rintro ⟨h, _⟩
       have h2 : sameTo l (wordsW s2 t es) p (i + 1) = false := by rw [HA.out, hb]; simp
       have h3 := sameTo_no h2 (m - (i + 1))
       rw [show i + 1 + (m - (i + 1)) = m by omega] at h3
       rw [h3] at h; cases h)
      rw [hb] at hn1
      obtain ⟨d0, d1, d2, d3⟩ := (HB6b.out.of HX3.out).four
      have d4 := (HB6b.out.of HX3.out).2.1 0
      have d5 := (HB6b.out.of HX3.out).2.1 1
      have d6 := (HB6b.out.of HX3.out).2.1 2
      have d7 := (HB6b.out.of HX3.out).2.1 3
      have d8 := (HB6b.out.of HX3.out).1
      clear hb HA HSm
      go_wp2_with fail
      refine region_ext (by kernel_rfl) (by kernel_rfl) ?_
      repeat (go_big_quiet_step (fail))
      refine wpQuiet_nil ?_
      rintro _ ⟨r6, rfl⟩
      (repeat (first | go_values | go_skip | go_guarded | go_step | go_upon | (simp only [Int.not_lt, Int.not_le] at *; go_simp) | (go_ite <;> go_prune <;> (try go_simp))))
      exact bodyPost_ret (v := .tuple #[.agg #[.int .i64 0, .int .i64 0, .int .i64 0, .slice none 0 0], .bool false]) (by simp [results, Tryd.results65, go_sem, d0, d1, d2, d3, d8]) rfl (RRP.no HF.out (by (show Ext _ _; repeat with_reducible first | (refine xH ?_; assumption) | exact xR _ | refine xX ?_ _ | refine xA ?_ _ | refine xD ?_ | refine xS ?_ (by (try dsimp only); first | omega | (simp; done) | (simp; omega)) _)))
     ·have HS2 := hid (show sameTo l (wordsW s2 t es) p (i + 1) = true by rw [HA.out, HSm.out, hb]; rfl)
      rw [hb] at hn1
      clear hb HA HSm
      go_wp2_with fail
      refine region_ext (by kernel_rfl) (by kernel_rfl) ?_
      repeat (go_big_quiet_step (fail))
      refine wpQuiet_nil ?_
      rintro _ ⟨r6, rfl⟩
      go_wp2_with fail
      go_roundw
      case rel => exact ⟨i + 1, by omega, by go_num, HS2, hid (HX3.out.trans (by (show Ext _ _; repeat first | (with_reducible first | (refine xH ?_; assumption) | exact xR _ | refine xX ?_ _ | refine xA ?_ _) | refine xD ?_ | refine xN ?_ _ | exact xR _)))⟩
      case measure => simp [intOf]; omega
    ·have hd : decide (i < m) = false := decide_eq_false him
     obtain rfl : i = m := by omega
     have HO3 := hid (HOb.out.of_ext HX3.out)
     have HB3c := hid (HB3b.out.of HX3.out)
     have HB6c := hid (HB6b.out.of HX3.out)
     have HBDc := hid (HBDb.out.of HX3.out)
     obtain ⟨d0, d1, d2, d3⟩ := HB6c.out.four
     have d4 := HB6c.out.2.1 0
     have d5 := HB6c.out.2.1 1
     have d6 := HB6c.out.2.1 2
     have d7 := HB6c.out.2.1 3
     have d8 := HB6c.out.1
     obtain ⟨fb, hfb⟩ : ∃ fb, fb = fitsB T B sl rm ws who s2 t es := ⟨_, rfl⟩
     have HFb := hid (show O = if fb = true then some (s2, t, es) else none by rw [HRe.out, hfb]; simp [HSm.out])
     have HFf := hid hfb
     clear HRe hfb HSm
     go_wp2_with fail
     refine wp_region_held_drew (S := fun w' => Ext w w' ∧ (w'.cell? ⟨w.heap.size, 0, none⟩ = some (.int .i64 T) ∧ w'.cell? ⟨w.heap.size, 1, none⟩ = some (.int .i64 B) ∧ w'.cell? ⟨w.heap.size, 2, none⟩ = some (.int .i64 sl) ∧ w'.cell? ⟨w.heap.size, 3, none⟩ = some (.int .i64 rm) ∧ w'.cell? ⟨w.heap.size, 4, none⟩ = some (.int .i64 104) ∧ w'.cell? ⟨w.heap.size, 5, none⟩ = some (.int .i64 32) ∧ w'.cell? ⟨w.heap.size, 6, none⟩ = some (.slice pa ws.length pc) ∧ w'.cell? ⟨w.heap.size, 7, none⟩ = some (.int .i64 sz)) ∧ (w'.cell? ⟨DD, 0, none⟩ = some (.int .i64 who) ∧ w'.cell? ⟨DD, 1, none⟩ = some (.int .i64 s2) ∧ w'.cell? ⟨DD, 2, none⟩ = some (.int .i64 t) ∧ w'.cell? ⟨DD, 3, none⟩ = some (.slice av es.length cv))) (by kernel_rfl) (by exact ⟨by (show Ext _ _; repeat with_reducible first | (refine xH ?_; assumption) | exact xR _ | refine xX ?_ _ | refine xA ?_ _ | refine xD ?_ | refine xS ?_ (by (try dsimp only); first | omega | (simp; done) | (simp; omega)) _), Blk.eight (by (show Blk _ _ _; repeat first | (with_reducible first | (refine xH ?_; assumption) | apply bD | apply bX) | ((with_reducible refine bN _ _ rfl ?_); first | with_reducible rfl | focus (simp; done)) | ((with_reducible apply bE); first | with_reducible rfl | focus (simp; done)) | (with_reducible first | apply bA | assumption | apply bS) | ((with_reducible refine bO ?_ ?_); first | omega | (simp; omega)) | (show List.set _ _ _ = _; exact rfl) | focus (show _ < List.length _; simp; done))), Blk.four (by (show Blk _ _ _; repeat first | (with_reducible first | (refine xH ?_; assumption) | apply bD | apply bX) | ((with_reducible refine bN _ _ rfl ?_); first | with_reducible rfl | focus (simp; done)) | ((with_reducible apply bE); first | with_reducible rfl | focus (simp; done)) | (with_reducible first | apply bA | assumption | apply bS) | ((with_reducible refine bO ?_ ?_); first | omega | (simp; omega)) | (show List.set _ _ _ = _; exact rfl) | focus (show _ < List.length _; simp; done)))⟩) (fun hHeld => ?_)
     refine take_met 0 (oi := ⟨_, _, _, _, _, _⟩) (v := ?_) (by kernel_rfl) rfl (by rfl) (fun _ _ _ h => h) (by assumption) ?_ ?_
     rotate_left 1
     ·intro w hSw
      try dsimp only at hSw
      go_simp
      try with_reducible rfl
     (try simp only [Act.put, pA, pB, pC])
     refine take_met 1 (oi := ⟨_, _, _, _, _, _⟩) (v := ?_) (by kernel_rfl) rfl (by rfl) (fun _ _ _ h => h) (by assumption) ?_ ?_
     rotate_left 1
     ·intro w hSw
      try dsimp only at hSw
      go_simp
      try with_reducible rfl
     (try simp only [Act.put, pA, pB, pC])
     refine take_met 2 (oi := ⟨_, _, _, _, _, _⟩) (v := ?_) (by kernel_rfl) rfl (by rfl) (fun _ _ _ h => h) (by assumption) ?_ ?_
     rotate_left 1
     ·intro w hSw
      try dsimp only at hSw
      go_simp
      try with_reducible rfl
     (try simp only [Act.put, pA, pB, pC])
     refine take_only 3 (oi := ⟨_, _, _, _, _, _⟩) (by kernel_rfl) rfl (fun K hK => ?_)
     go_simp
     first
      | (go_at_call 73; refine (rfits_any T B sl rm sz HT.out HB.out HSl.out HRm.out ws _ who s2 t es _ (by have := HLn.out; omega) _ (HPv.out.of boE_len (by (show Ext _ _; repeat with_reducible first | (refine xH ?_; assumption) | exact xR _ | refine xX ?_ _ | refine xA ?_ _ | refine xD ?_ | refine xS ?_ (by (try dsimp only); first | omega | (simp; done) | (simp; omega)) _))) ((Sl.of_own enE_len HO3.out).of enE_len (by (show Ext _ _; repeat first | (with_reducible first | (refine xH ?_; assumption) | exact xR _ | refine xX ?_ _ | refine xA ?_ _) | refine xD ?_ | refine xN ?_ _ | exact xR _)))).mono ?_; rintro e w' ⟨rfl, r7, rfl⟩; rw [← HFf.out])
     have hOld := hHeld
     clear hHeld
     refine hK.out _ _ (by exact ⟨by (show Ext _ _; repeat with_reducible first | (refine xH ?_; assumption) | exact xR _ | refine xX ?_ _ | refine xA ?_ _ | refine xD ?_ | refine xS ?_ (by (try dsimp only); first | omega | (simp; done) | (simp; omega)) _), Blk.eight (by (show Blk _ _ _; repeat first | (with_reducible first | (refine xH ?_; assumption) | apply bD | apply bX) | ((with_reducible refine bN _ _ rfl ?_); first | with_reducible rfl | focus (simp; done)) | ((with_reducible apply bE); first | with_reducible rfl | focus (simp; done)) | (with_reducible first | apply bA | assumption | apply bS) | ((with_reducible refine bO ?_ ?_); first | omega | (simp; omega)) | (show List.set _ _ _ = _; exact rfl) | focus (show _ < List.length _; simp; done))), Blk.four (by (show Blk _ _ _; repeat first | (with_reducible first | (refine xH ?_; assumption) | apply bD | apply bX) | ((with_reducible refine bN _ _ rfl ?_); first | with_reducible rfl | focus (simp; done)) | ((with_reducible apply bE); first | with_reducible rfl | focus (simp; done)) | (with_reducible first | apply bA | assumption | apply bS) | ((with_reducible refine bO ?_ ?_); first | omega | (simp; omega)) | (show List.set _ _ _ = _; exact rfl) | focus (show _ < List.length _; simp; done)))⟩) (fun hHeld => ?_)
     clear hOld hK K
     (try simp only [Act.put, pA, pB, pC])
     refine take_only 4 (oi := ⟨_, _, _, _, _, _⟩) (by kernel_rfl) rfl (fun K hK => ?_)
     go_simp
     have hOld := hHeld
     clear hHeld
     refine hK.out _ _ (by exact ⟨by (show Ext _ _; repeat with_reducible first | (refine xH ?_; assumption) | exact xR _ | refine xX ?_ _ | refine xA ?_ _ | refine xD ?_ | refine xS ?_ (by (try dsimp only); first | omega | (simp; done) | (simp; omega)) _), Blk.eight (by (show Blk _ _ _; repeat first | (with_reducible first | (refine xH ?_; assumption) | apply bD | apply bX) | ((with_reducible refine bN _ _ rfl ?_); first | with_reducible rfl | focus (simp; done)) | ((with_reducible apply bE); first | with_reducible rfl | focus (simp; done)) | (with_reducible first | apply bA | assumption | apply bS) | ((with_reducible refine bO ?_ ?_); first | omega | (simp; omega)) | (show List.set _ _ _ = _; exact rfl) | focus (show _ < List.length _; simp; done))), Blk.four (by (show Blk _ _ _; repeat first | (with_reducible first | (refine xH ?_; assumption) | apply bD | apply bX) | ((with_reducible refine bN _ _ rfl ?_); first | with_reducible rfl | focus (simp; done)) | ((with_reducible apply bE); first | with_reducible rfl | focus (simp; done)) | (with_reducible first | apply bA | assumption | apply bS) | ((with_reducible refine bO ?_ ?_); first | omega | (simp; omega)) | (show List.set _ _ _ = _; exact rfl) | focus (show _ < List.length _; simp; done)))⟩) (fun hHeld => ?_)
     clear hOld hK K
     (try simp only [Act.put, pA, pB, pC])
     refine take_met 5 (oi := ⟨_, _, _, _, _, _⟩) (v := ?_) (by kernel_rfl) rfl (by rfl) (fun _ _ _ h => h) (by assumption) ?_ ?_
     rotate_left 1
     ·intro w hSw
      try dsimp only at hSw
      go_simp
      try with_reducible rfl
     (try simp only [Act.put, pA, pB, pC])
     refine wpAnyH_done (by kernel_rfl) ?_ _
     generalize hWe : World.setCell _ _ _ = We
     have hBr : Blk We (w.heap.size + 1) [.int .i64 who, .int .i64 s2, .int .i64 t, .slice av es.length cv] := by rw [← hWe]; exact (((((HB6c.out.drew.ext _).set 0 (by simp) _).set 1 (by simp) _).set 2 (by simp) _).set 3 (by simp) _)
     have hXe : Ext w We := by rw [← hWe]; exact ((((HXc.out.drew.ext _).setCell (Nat.le_succ _) _).setCell (Nat.le_succ _) _).setCell (Nat.le_succ _) _).setCell (Nat.le_succ _) _
     have hOe : Own We V.heap.size 67 6 enE (.slice av es.length cv) es := by rw [← hWe]; exact (((((HO3.out.drew.ext _).under (by omega) _).under (by omega) _).under (by omega) _).under (by omega) _)
     clear hWe
     obtain ⟨z0, z1, z2, z3⟩ := hBr.four
     have z4 := hBr.1
     (repeat (first | go_values | go_skip | go_guarded | go_step | go_upon | (simp only [Int.not_lt, Int.not_le] at *; go_simp) | (go_ite <;> go_prune <;> (try go_simp))))
     cases fb
     ·exact bodyPost_ret (v := .tuple #[.agg #[.int .i64 who, .int .i64 s2, .int .i64 t, .slice av es.length cv], .bool false]) (by simp [results, Tryd.results65, go_sem, z0, z1, z2, z3, z4]) rfl (RRP.no (by rw [HFb.out]; rfl) hXe)
     exact bodyPost_ret (v := .tuple #[.agg #[.int .i64 who, .int .i64 s2, .int .i64 t, .slice av es.length cv], .bool true]) (by simp [results, Tryd.results65, go_sem, z0, z1, z2, z3, z4]) rfl (RRP.yes (by rw [HFb.out]; rfl) hXe (Sl.of_own enE_len hOe))
end Go.Proofs.YtdpbcfjfnclpiaaDoor
namespace Go.Proofs.YtdpbcfjfnclpiaaDoor
set_option linter.unusedSimpArgs false
set_option linter.unusedVariables false
open Go.RowKit
def rlogW (q : Int → Option (Int × Int × List En)) (x : Wd) (p : Int) : Wd :=
 if x.2.2 = 0 then (x.1, x.2.1, 0) else match q (x.2.2 / 16777216) with
  | none => (x.1, x.2.1, 0)
  | some (seq, st, es) => if seq = x.2.2 % 16777216 ∧ st = 1 then outW x.1 x.2.1 (findW p es) else (x.1, x.2.1, 0)
theorem rlog_law {t c b : Int} {l : List Wd} (ht : t ≤ 8) (hb : b ≤ 64) (x : Wd) (hx : 0 ≤ x.2.2 ∧ x.2.2 ≤ 4294967295) (p : Int) : rlogW (fun who => (readN t c b l who).2) x p = logicW t c b l x p := by
 obtain ⟨x1, x2, x3⟩ := x
 simp only at hx
 unfold rlogW logicW whoN
 dsimp only
 by_cases h0 : x3 = 0
 ·subst h0; simp
 rw [if_neg h0]
 by_cases hv : 1 ≤ x3 / 16777216 ∧ x3 / 16777216 ≤ 72 ∧ 1 ≤ x3 % 16777216
 ·rw [if_pos hv]
  dsimp only
  rw [if_neg (by omega)]
  rfl
 ·rw [if_neg hv]
  dsimp only
  rw [if_pos rfl]
  cases hr : (readN t c b l (x3 / 16777216)).2 with
  | none => rfl
  | some q =>
   obtain ⟨seq, st, es⟩ := q
   obtain ⟨d1, d2, _⟩ := read_some hr
   have hw := place_val (by omega) (by omega) d1
   dsimp only
   rw [if_neg (by omega)]
set_option maxRecDepth 100000 in
set_option maxHeartbeats 2000000 in
theorem rlogical_any (T B sl rm sz : Int) (hT : 0 ≤ T ∧ T ≤ 8) (hB : 0 ≤ B ∧ B ≤ 64) (hsl : 0 ≤ sl ∧ sl ≤ 100000) (hrm : 0 ≤ rm ∧ rm ≤ 100000) (ws : List Bool) (pv : Value) (l : List Wd) (lv : Value) (hok : ∀ a ∈ l, WdOk a)
 (hroom : ∀ who, -9223372036854775808 ≤ who → who ≤ 9223372036854775807 → ¬ (rplaceN T B sl rm who).1 < 0 → (rplaceN T B sl rm who).1 ≤ 30000 ∧ (0 ≤ (rplaceN T B sl rm who).2 ∧ (rplaceN T B sl rm who).2 ≤ 32) ∧ (rplaceN T B sl rm who).1 + 2 + 3 * (rplaceN T B sl rm who).2 ≤ (l.length : Int))
 (n : Nat) (x1 x2 x3 : Int) (hx : l[n]? = some (x1, x2, x3)) (w : World) (hp : Sl w 1 boE pv ws) (hv : Sl w 3 wdE lv l) :
 Calls Tryd.prog 55 #[.agg #[.int .i64 T, .int .i64 B, .int .i64 sl, .int .i64 rm, .int .i64 104, .int .i64 32, pv, .int .i64 sz], lv, .int .i64 n] w
  fun y w' => (∃ r, w' = ext w r) ∧ y = .returned (.agg #[.int .i64 (rlogW (rreadO T B sl rm ws l) (x1, x2, x3) n).1, .int .u32 (rlogW (rreadO T B sl rm ws l) (x1, x2, x3) n).2.1, .int .u32 (rlogW (rreadO T B sl rm ws l) (x1, x2, x3) n).2.2]) := by
 have HV := hid hv
 have HPv := hid hp
 have HOk := hid hok
 have HRoom := hid hroom
 have HT := hid hT
 have HB := hid hB
 have HSl := hid hsl
 have HRm := hid hrm
 have hxk := hok _ (List.mem_of_getElem? hx)
 obtain ⟨a, cp, rfl, ⟨hm, hlc⟩, _⟩ := hv
 obtain ⟨pa, pc, rfl, _, _⟩ := hp
 obtain ⟨g0, bb, oo, hab, hbl, hcs⟩ := Sl.at HV.out hx
 subst hab
 have hnl := (List.getElem?_eq_some_iff.1 hx).1
 have k0 := hcs 0 (by omega)
 have k1 := hcs 1 (by omega)
 have k2 := hcs 2 (by omega)
 simp [wdE] at k0 k1 k2
 obtain ⟨_, ⟨hx0, hx1⟩, ⟨hx2, hx3⟩⟩ := hxk
 dsimp only at hx0 hx1 hx2 hx3
 obtain ⟨who, hwho⟩ : ∃ q, q = x3 / 16777216 := ⟨_, rfl⟩
 obtain ⟨sq, hsq⟩ : ∃ q, q = x3 % 16777216 := ⟨_, rfl⟩
 have ht1 : x3.tdiv 16777216 = who := by rw [Int.tdiv_eq_ediv_of_nonneg hx2]; exact hwho.symm
 have ht2 : x3.tmod 16777216 = sq := by rw [Int.tmod_eq_emod_of_nonneg hx2]; exact hsq.symm
 have hwb0 : 0 ≤ who := by omega
 have hwb1 : who ≤ 255 := by omega
 have hsb0 : 0 ≤ sq := by omega
 have hsb1 : sq ≤ 16777215 := by omega
 have hw1 : IntKind.i64.wrap who = who := IntWalk.i64_in _ (by omega)
 have hw2 : IntKind.i64.wrap sq = sq := IntWalk.i64_in _ (by omega)
 have hnn : (n : Int) < (l.length : Int) := by omega
 obtain ⟨R, hR⟩ : ∃ R, R = rlogW (rreadO T B sl rm ws l) (x1, x2, x3) n := ⟨_, rfl⟩
 rw [← hR]
 have HQ := hid (show R = if x3 = 0 then (x1, x2, 0) else match rreadO T B sl rm ws l who with
  | none => (x1, x2, 0)
  | some (seq, st, es) => if seq = sq ∧ st = 1 then outW x1 x2 (findW n es) else (x1, x2, 0) by
  rw [hR, hwho, hsq]; rfl)
 clear hok hroom hT hB hsl hrm hcs hx g0 hwho hsq hR hm hlc
 go_enter Tryd.func55, Tryd.ntmps55
 go_wp2_with fail
 refine region_ext (by kernel_rfl) (by kernel_rfl) ?_
 repeat (go_big_quiet_step (fail))
 refine wpQuiet_nil ?_
 rintro _ ⟨r1, rfl⟩
 by_cases h0 : x3 = 0
 ·have HR := hid (show R = (x1, x2, 0) by rw [HQ.out, if_pos h0])
  have h0b : (x3 == 0) = true := by simpa using h0
  clear h0 HQ
  (repeat (first | go_values | go_skip | go_guarded | go_step | go_upon | (simp only [Int.not_lt, Int.not_le] at *; go_simp) | (go_ite <;> go_prune <;> (try go_simp))))
  refine bodyPost_ret (v := .agg #[.int .i64 x1, .int .u32 x2, .int .u32 0]) (by simp [results, Tryd.results55, go_sem]) rfl ⟨by (show Ext _ _; repeat with_reducible first | (refine xH ?_; assumption) | exact xR _ | refine xX ?_ _ | refine xA ?_ _ | refine xD ?_ | refine xS ?_ (by (try dsimp only); first | omega | (simp; done) | (simp; omega)) _), by rw [HR.out]⟩
 have h0b : (x3 == 0) = false := by simpa using h0
 have HLw := hid (show R = match rreadO T B sl rm ws l who with
  | none => (x1, x2, 0)
  | some (seq, st, es) => if seq = sq ∧ st = 1 then outW x1 x2 (findW n es) else (x1, x2, 0) by
  rw [HQ.out, if_neg h0])
 clear h0 HQ
 go_wp2_with fail
 refine (rread_any T B sl rm sz HT.out HB.out HSl.out HRm.out ws _ who l _ HOk.out (fun h => HRoom.out who (by omega) (by omega) (by omega)) _ (HPv.out.of boE_len (by (show Ext _ _; repeat with_reducible first | (refine xH ?_; assumption) | exact xR _ | refine xX ?_ _ | refine xA ?_ _ | refine xD ?_ | refine xS ?_ (by (try dsimp only); first | omega | (simp; done) | (simp; omega)) _))) (HV.out.of wdE_len (by (show Ext _ _; repeat with_reducible first | (refine xH ?_; assumption) | exact xR _ | refine xX ?_ _ | refine xA ?_ _ | refine xD ?_ | refine xS ?_ (by (try dsimp only); first | omega | (simp; done) | (simp; omega)) _)))).mono ?_
 rintro y w' ⟨⟨r5, rfl⟩, a', b', c', s', n', cp', rfl, hq⟩
 cases hrd : rreadO T B sl rm ws l who with
 | none =>
  have HR := hid (show R = (x1, x2, 0) by rw [HLw.out, hrd])
  clear hrd hq HLw
  simp only [Option.isSome_none]
  (repeat (first | go_values | go_skip | go_guarded | go_step | go_upon | (simp only [Int.not_lt, Int.not_le] at *; go_simp) | (go_ite <;> go_prune <;> (try go_simp))))
  refine bodyPost_ret (v := .agg #[.int .i64 x1, .int .u32 x2, .int .u32 0]) (by simp [results, Tryd.results55, go_sem]) rfl ⟨by (show Ext _ _; repeat with_reducible first | (refine xH ?_; assumption) | exact xR _ | refine xX ?_ _ | refine xA ?_ _ | refine xD ?_ | refine xS ?_ (by (try dsimp only); first | omega | (simp; done) | (simp; omega)) _), by rw [HR.out]⟩
 | some q =>
  obtain ⟨seq, st, es⟩ := q
  obtain ⟨rfl, rfl, rfl, hes⟩ := hq seq st es hrd
  have HLv := hid (show R = if b' = sq ∧ c' = 1 then outW x1 x2 (findW n es) else (x1, x2, 0) by rw [HLw.out, hrd])
  have HEs := hid hes
  obtain ⟨ae, ce, he0, ⟨hme, hlce⟩, _⟩ := hes
  simp only [Value.slice.injEq] at he0
  obtain ⟨rfl, rfl, rfl⟩ := he0
  clear hrd hq HLw
  simp only [Option.isSome_some]
  by_cases hm2 : b' = sq ∧ c' = 1
  rotate_left
  ·have HR := hid (show R = (x1, x2, 0) by rw [HLv.out, if_neg hm2])
   have hcs : (b' != sq) = true ∨ ((b' != sq) = false ∧ (c' != 1) = true) := by
    by_cases h5 : b' = sq
    ·exact .inr ⟨by simp [h5], by simp; intro h6; exact hm2 ⟨h5, h6⟩⟩
    ·exact .inl (by simpa using h5)
   clear hm2
   rcases hcs with h5 | ⟨h5, h6⟩
   all_goals
    (repeat (first | go_values | go_skip | go_guarded | go_step | go_upon | (simp only [Int.not_lt, Int.not_le] at *; go_simp) | (go_ite <;> go_prune <;> (try go_simp))))
    refine bodyPost_ret (v := .agg #[.int .i64 x1, .int .u32 x2, .int .u32 0]) (by simp [results, Tryd.results55, go_sem]) rfl ⟨by (show Ext _ _; repeat with_reducible first | (refine xH ?_; assumption) | exact xR _ | refine xX ?_ _ | refine xA ?_ _ | refine xD ?_ | refine xS ?_ (by (try dsimp only); first | omega | (simp; done) | (simp; omega)) _), by rw [HR.out]⟩
  ·obtain ⟨rfl, rfl⟩ := hm2
   have HFi := hid (show R = outW x1 x2 (findW n (es.drop 0)) by rw [HLv.out, if_pos ⟨rfl, rfl⟩]; rfl)
   clear HLv
   go_wp2_with fail
   generalize hW : World.alloc _ _ = W
   have HB6 := hid (show Blk W (w.heap.size + 1) [.int .i64 0, .int .u32 0, .int .u32 0] by rw [← hW]; (show Blk _ _ _; repeat first | (with_reducible first | (refine xH ?_; assumption) | refine bD ?_ | refine bX ?_ _) | (with_reducible refine bN _ _ rfl ?_; first | with_reducible rfl | (simp; done)) | (with_reducible first | refine bA ?_ _ | assumption | apply bS) | (with_reducible refine bO ?_ ?_; first | omega | (simp; omega)) | (show List.set _ _ _ = _; exact rfl) | (show _ < List.length _; simp; done)))
   have HB8 := hid (show Blk W (w.heap.size + 1 + 1) [.int .i64 x1, .int .u32 x2, .int .u32 x3] by rw [← hW]; (show Blk _ _ _; repeat first | (with_reducible first | (refine xH ?_; assumption) | refine bD ?_ | refine bX ?_ _) | (with_reducible refine bN _ _ rfl ?_; first | with_reducible rfl | (simp; done)) | (with_reducible first | refine bA ?_ _ | assumption | apply bS) | (with_reducible refine bO ?_ ?_; first | omega | (simp; omega)) | (show List.set _ _ _ = _; exact rfl) | (show _ < List.length _; simp; done)))
   have HB11 := hid (show Blk W (w.heap.size + 1 + 1 + 1 + r1.new.size) [.int .i64 x1, .int .u32 x2, .int .u32 0] by rw [← hW]; (show Blk _ _ _; repeat first | (with_reducible first | (refine xH ?_; assumption) | refine bD ?_ | refine bX ?_ _) | (with_reducible refine bN _ _ rfl ?_; first | with_reducible rfl | (simp; done)) | (with_reducible first | refine bA ?_ _ | assumption | apply bS) | (with_reducible refine bO ?_ ?_; first | omega | (simp; omega)) | (show List.set _ _ _ = _; exact rfl) | (show _ < List.length _; simp; done)))
   have HBd := hid (show Blk W (w.heap.size + 1 + 1 + 1 + r1.new.size + 1 + r5.new.size) [.int .i64 a', .int .i64 b', .int .i64 1, .slice s' es.length cp'] by rw [← hW]; (show Blk _ _ _; repeat first | (with_reducible first | (refine xH ?_; assumption) | refine bD ?_ | refine bX ?_ _) | (with_reducible refine bN _ _ rfl ?_; first | with_reducible rfl | (simp; done)) | (with_reducible first | refine bA ?_ _ | assumption | apply bS) | (with_reducible refine bO ?_ ?_; first | omega | (simp; omega)) | (show List.set _ _ _ = _; exact rfl) | (show _ < List.length _; simp; done)))
   have HWx := hid (show Ext w W by rw [← hW]; (show Ext _ _; repeat with_reducible first | (refine xH ?_; assumption) | exact xR _ | refine xX ?_ _ | refine xA ?_ _ | refine xD ?_ | refine xS ?_ (by (try dsimp only); first | omega | (simp; done) | (simp; omega)) _))
   have HE0 := hid (HEs.out.of enE_len (show Ext _ W by rw [← hW]; (show Ext _ _; repeat with_reducible first | (refine xH ?_; assumption) | exact xR _ | refine xX ?_ _ | refine xA ?_ _ | refine xD ?_ | refine xS ?_ (by (try dsimp only); first | omega | (simp; done) | (simp; omega)) _)))
   generalize w.heap.size + 1 + 1 + 1 + r1.new.size + 1 + r5.new.size = gd at *
   generalize w.heap.size + 1 + 1 + 1 + r1.new.size = g11 at *
   clear hW
   go_loopw [13] (fun i wr => ∃ j : Nat, j ≤ es.length ∧ i = .int .i64 j ∧ Hid (R = outW x1 x2 (findW n (es.drop j))) ∧ Hid (Ext W wr)) (fun i _ => es.length - (intOf i).toNat)
   case atStart => exact ⟨0, by omega, rfl, HFi, hid (by (show Ext _ _; repeat first | (with_reducible first | (refine xH ?_; assumption) | exact xR _ | refine xX ?_ _ | refine xA ?_ _) | refine xD ?_ | refine xN ?_ _ | exact xR _))⟩
   case round =>
    clear HFi
    obtain ⟨j, hj, rfl, HFi, HX⟩ := hrel
    have HXw := hid (HWx.out.trans HX.out)
    have d0 := (HB6.out.of HX.out).2.2 0 _ rfl
    have d1 := (HB6.out.of HX.out).2.2 1 _ rfl
    have d2 := (HB6.out.of HX.out).2.2 2 _ rfl
    have d4 := (HB6.out.of HX.out).2.1 0
    have d5 := (HB6.out.of HX.out).2.1 1
    have d6 := (HB6.out.of HX.out).2.1 2
    have d7 := (HB6.out.of HX.out).1
    obtain ⟨f0, f1, f2, f3⟩ := (HBd.out.of HX.out).four
    have f4 := (HBd.out.of HX.out).1
    by_cases hjl : j < es.length
    ·have hd : decide (j < es.length) = true := decide_eq_true hjl
     obtain ⟨hnl, b0, o, hab, hbl, hcs⟩ := Sl.at HE0.out (List.getElem?_eq_getElem hjl)
     have HX1 := hid (List.getElem?_eq_getElem hjl)
     generalize es[j] = e at hcs HX1
     have HA := hid (findW_at (p := n) HX1.out)
     subst hab
     obtain ⟨loc, val, ver, ref, new, wr1⟩ := e
     have q0 := HX.out.cell (hcs 0 (by omega))
     have q1 := HX.out.cell (hcs 1 (by omega))
     have q2 := HX.out.cell (hcs 2 (by omega))
     have q3 := HX.out.cell (hcs 3 (by omega))
     have q4 := HX.out.cell (hcs 4 (by omega))
     have q5 := HX.out.cell (hcs 5 (by omega))
     simp [enE] at q0 q1 q2 q3 q4 q5
     have c1 := (HB8.out.of HX.out).2.2 1 _ rfl
     have c2 := (HB8.out.of HX.out).1
     clear hcs hnl
     by_cases hh : loc = n ∧ wr1 = true
     ·have HR := hid (show R = (new, (x2 + 1) % 4294967296, 0) by rw [HFi.out, HA.out, if_pos hh]; rfl)
      obtain ⟨rfl, rfl⟩ := hh
      clear HFi HA
      (repeat (first | go_values | go_skip | go_guarded | go_step | go_upon | (simp only [Int.not_lt, Int.not_le] at *; go_simp) | (go_ite <;> go_prune <;> (try go_simp))))
      refine bodyPost_ret (v := .agg #[.int .i64 new, .int .u32 ((x2 + 1) % 4294967296), .int .u32 0]) (by simp [results, Tryd.results55, go_sem, d0, d1, d2, d7]) rfl ⟨by (show Ext _ _; repeat with_reducible first | (refine xH ?_; assumption) | exact xR _ | refine xX ?_ _ | refine xA ?_ _ | refine xD ?_ | refine xS ?_ (by (try dsimp only); first | omega | (simp; done) | (simp; omega)) _), by rw [HR.out]⟩
     ·have HN := hid (show R = outW x1 x2 (findW n (es.drop (j + 1))) by rw [HFi.out, HA.out, if_neg hh])
      clear HFi HA
      have hcs : (loc == (n : Int)) = false ∨ ((loc == (n : Int)) = true ∧ wr1 = false) := by
       by_cases h5 : loc = n
       ·exact .inr ⟨by simp [h5], by cases wr1; rfl; exact absurd ⟨h5, rfl⟩ hh⟩
       ·exact .inl (by simpa using h5)
      clear hh
      rcases hcs with h5 | ⟨h5, rfl⟩
      all_goals
       go_wp2_with fail
       go_roundw
       case rel => exact ⟨j + 1, by omega, by go_num, HN, hid (by (show Ext _ _; repeat with_reducible first | (refine xH ?_; assumption) | exact xR _ | refine xX ?_ _ | refine xA ?_ _ | refine xD ?_ | refine xS ?_ (by (try dsimp only); first | omega | (simp; done) | (simp; omega)) _))⟩
       case measure => simp [intOf]; omega
    ·have hd : decide (j < es.length) = false := decide_eq_false hjl
     have HR := hid (show R = (x1, x2, 0) by rw [HFi.out, List.drop_eq_nil_of_le (by omega)]; rfl)
     have c0 := (HB11.out.of HX.out).2.2 0 _ rfl
     have c1 := (HB11.out.of HX.out).2.2 1 _ rfl
     have c2 := (HB11.out.of HX.out).2.2 2 _ rfl
     clear HFi
     (repeat (first | go_values | go_skip | go_guarded | go_step | go_upon | (simp only [Int.not_lt, Int.not_le] at *; go_simp) | (go_ite <;> go_prune <;> (try go_simp))))
     refine bodyPost_ret (v := .agg #[.int .i64 x1, .int .u32 x2, .int .u32 0]) (by simp [results, Tryd.results55, go_sem, d0, d1, d2, d7]) rfl ⟨by (show Ext _ _; repeat with_reducible first | (refine xH ?_; assumption) | exact xR _ | refine xX ?_ _ | refine xA ?_ _ | refine xD ?_ | refine xS ?_ (by (try dsimp only); first | omega | (simp; done) | (simp; omega)) _), by rw [HR.out]⟩
end Go.Proofs.YtdpbcfjfnclpiaaDoor
namespace Go.Proofs.YtdpbcfjfnclpiaaDoor
set_option linter.unusedSimpArgs false
set_option linter.unusedVariables false
open Go.RowKit
def wantTo (es : List En) (i : Int) (c : Bool) (y : Int) (a : Wd) : Nat → Wd
 | 0 => a
 | k + 1 => match es[k]? with
  | some e => if (decide (e.loc = i) && e.wr && c) = true then (e.new, (y + 1) % 4294967296, 0) else wantTo es i c y a k
  | none => wantTo es i c y a k
def instTo (t c b : Int) (L : List Wd) (es : List En) (r : Int) : Nat → List Wd
 | 0 => L
 | k + 1 => match es[k]? with
  | some e => if k % 3 ≠ 2 ∧ mayN t c b e.loc = true then (instTo t c b L es r k).set e.loc.toNat (e.val, e.ver, r) else instTo t c b L es r k
  | none => instTo t c b L es r k
theorem rlog_same {q q' : Int → Option (Int × Int × List En)} {x : Wd} {p : Int} (h : q (x.2.2 / 16777216) = q' (x.2.2 / 16777216)) : rlogW q x p = rlogW q' x p := by
 unfold rlogW; rw [h]
end Go.Proofs.YtdpbcfjfnclpiaaDoor
namespace Go.Proofs.YtdpbcfjfnclpiaaDoor
set_option linter.unusedSimpArgs false
set_option linter.unusedVariables false
open Go.RowKit
def rlogF (T B sl rm : Int) (ws : List Bool) (L : List Wd) (p : Nat) : Wd := rlogW (rreadO T B sl rm ws L) (L.getD p (0, 0, 0)) p
end Go.Proofs.YtdpbcfjfnclpiaaDoor
namespace Go.Proofs.YtdpbcfjfnclpiaaDoor
set_option linter.unusedSimpArgs false
set_option linter.unusedVariables false
open Go.RowKit
def qs1 (L : List Wd) (p : Nat) : Bool := match L[p]? with | some x => decide (x.2.2 = 0) | none => true
def qs2 (L : List Wd) (p : Nat) : Bool := match L[p]? with | some x => !undB x | none => true
def qs3 (L : List Wd) (p : Nat) : Bool := match L[p]? with | some x => wdB x (0, 0, 0) | none => true
end Go.Proofs.YtdpbcfjfnclpiaaDoor
namespace Go.Proofs.YtdpbcfjfnclpiaaDoor
set_option linter.unusedSimpArgs false
set_option linter.unusedVariables false
open Go.RowKit
set_option maxRecDepth 100000
section
variable {L : List Wd} (hl : L.length = 416)
include hl
end
end Go.Proofs.YtdpbcfjfnclpiaaDoor
