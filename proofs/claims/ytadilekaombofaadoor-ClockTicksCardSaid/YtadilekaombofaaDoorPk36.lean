/- The clock's law: plan, start. -/
import Derived.Test.YtadilekaombofaaDoorPk34
import Derived.Test.YtadilekaombofaaDoorPk35
namespace Go.Proofs.YtadilekaombofaaDoor
set_option linter.unusedSimpArgs false
set_option linter.unusedVariables false
open Go.RowKit Go.Maps
set_option maxHeartbeats 1000000 in
theorem plan26_any (w : World) : Calls Tryd.prog 13 #[] w fun e w' => e = .returned (.agg #[.int .i64 3, .int .i64 1, .int .i64 0]) ∧ ∃ r, w' = ext w r := by
 go_enter Tryd.func13, Tryd.ntmps13
 (repeat (first | go_values | go_skip | go_guarded | go_step | go_upon | (simp only [Int.not_lt, Int.not_le] at *; go_simp) | (go_ite <;> go_prune <;> (try go_simp))))
 exact bodyPost_ret (v := .agg #[.int .i64 3, .int .i64 1, .int .i64 0]) (by simp [results, Tryd.results13, go_sem]) rfl ⟨rfl, by (show Ext _ _; repeat first | (with_reducible first | (refine xH ?_; assumption) | exact xR _ | refine xX ?_ _ | refine xA ?_ _) | refine xD ?_ | refine xN ?_ _ | exact xR _)⟩
theorem first310 : (firstL 3 1 0).length = 376 ∧ (firstL 3 1 0)[0]? = some (0, 0, 0) := ⟨by kernel_rfl, by kernel_rfl⟩
theorem at310 : atN 3 1 0 0 0 0 = 0 := by kernel_rfl
theorem chk310 : checkN 3 1 0 = 0 := by kernel_rfl
def ws26 (time : Int) : List Wd := (firstL 3 1 0).set 0 (time, 0, 0)
theorem ws26_len (time : Int) : (ws26 time).length = 376 := by unfold ws26; rw [List.length_set]; exact first310.1
theorem ws26_at (time : Int) : (ws26 time)[0]? = some (time, 0, 0) := by unfold ws26; exact List.getElem?_set_self (by rw [first310.1]; omega)
def mc26 (time : Int) : Mc := ⟨⟨(ws26 time).map (fun x => [⟨x, 0, fun _ => 0⟩]), List.replicate 3 (fun _ => 0)⟩, ⟨ws26 time, List.replicate 47 ([], 0)⟩, List.replicate 3 0⟩
theorem mc26_good (time : Int) : G26 (mc26 time) (time, 0, 0) 0 := by
 refine ⟨⟨[⟨(time, 0, 0), 0, fun _ => 0⟩], 0, fun _ => 0, ?_, rfl, Nat.le_refl _⟩, ?_, rfl, ?_, ⟨([], 0), rfl, Nat.le_refl _⟩, by show (List.replicate 47 (([] : List (Int × Wd)), 0)).length ≤ 1000; simp, rfl, fun i s hs => ?_⟩
 ·simp only [mc26]
  rw [List.getElem?_map, ws26_at]; rfl
 ·simp only [mc26]
  rw [List.length_map, ws26_len]; omega
 ·simp only [mc26]
  rw [List.length_map]
 ·have hs : (List.replicate 3 (0 : Int))[i]? = some s := hs
  rw [List.getElem?_replicate] at hs
  split at hs
  ·cases hs; omega
  ·cases hs
def ck0 (t : Bool) : ckK.C := (⟨0, t, 0, 0⟩ : Ck)
def ckV (t : Bool) : Value := .agg #[.int .i64 0, .bool t, .int .i64 0, .int .i64 0]
theorem made310 (t : Bool) : ckMade 3 1 0 t = .iface ckT (ckV t) := by
 unfold ckMade ckV; rw [if_pos chk310, at310]
theorem err310 : ckErr 3 1 0 = 0 := if_pos chk310
theorem Tryd.info_if : (Tryd.prog.info? 55).map (fun i => (i.zero, i.size, i.bytes)) = some (some .nilIface, 1, 16) := by kernel_rfl
theorem if_append {T : TypeId} {ops : Array Oper} {rest : List Oper} {o : Oper} {a : Act} {Q : Exit → Act → World → Prop} {w : World} {base : Nat} {v : Value} {l : List Value} (hgd : o.guard = none)
 (s x : Operand) (ho : o.op = .call { callee := .builtin .append, args := #[s, x], argTypes := #[75, 75] })
 (W : World) (hW : Ext W w) (hWb : W.heap.size ≤ base) (hbw : base ≤ w.heap.size) (hs : a.eval s = v) (hown : Own w base 55 1 (ifE T) v l)
 (ad : Addr) (m c : Nat) (hx : a.eval x = .slice (some ad) m c) (news : List Value) (hm : news.length = m)
 (hnews : ∀ (j : Nat) (u : Value), (news.flatMap (ifE T))[j]? = some u → w.cell? (ad.add j) = some u)
 (hlen : l.length + m ≤ 1000000)
 (h : ∀ v' r, Own (ext W r) base 55 1 (ifE T) v' (l ++ news) → wpList Tryd.prog ops Q rest (a.put o.dst v') (ext W r)) : wpList Tryd.prog ops Q (o :: rest) a w := by
 obtain ⟨i0, hi, hz0, hz1, hz2⟩ := info_parts Tryd.info_if
 exact own_append (Tryd.underlying75) hi hz0 hz1 hz2 rfl (by decide) (ifE_len T) (fun r u hu => by simp [ifE] at hu; subst hu; rfl) hgd s x ho W hW hWb hbw hs hown ad m c hx news hm hnews (by unfold maxLen; omega) (by omega) h
theorem blk_news1 {T : TypeId} {w : World} {b : Nat} {x : Value} (h : Blk w b (ifE T x)) : ∀ (j : Nat) (u : Value), ([x].flatMap (ifE T))[j]? = some u → w.cell? ((⟨b, 0, none⟩ : Addr).add j) = some u := blk_newsT h
theorem take_snoc {α : Type} (l : List α) (j : Nat) (x : α) (h : l[j]? = some x) : l.take (j + 1) = l.take j ++ [x] := by
 rw [List.take_add_one, h]; rfl
set_option maxRecDepth 100000 in
set_option maxHeartbeats 2000000 in
theorem start26_any {w : World} (hs : Szs w) (time : Int) {ba : Option Addr} {bn bc : Nat} {l : List Bool} (hl : Sl w 1 blE (.slice ba bn bc) l) (h1 : 0 < l.length ∧ l.length ≤ 3) :
 Calls Tryd.prog 5 #[.int .i64 time, .slice ba bn bc] w fun e w' => ∃ v', e = .returned (.tuple #[v', .bool true]) ∧ Ext w w' ∧ WV ckK w' (fun b => w.heap.size ≤ b) none 0 v' (mc26 time) (l.map (fun t => tkStart ckK (ck0 t))) (List.replicate l.length false) := by
 have hbn : bn = l.length := by obtain ⟨a', c', hv, _⟩ := hl; simp only [Value.slice.injEq] at hv; exact hv.2.1
 obtain ⟨t0, ht0⟩ : ∃ x, l[0]? = some x := ⟨l[0]'(by omega), List.getElem?_eq_getElem _⟩
 obtain ⟨hx0_, cb, co, rfl, hcb0, hcx0⟩ := hl.at ht0
 clear ht0 hx0_ hcb0 hcx0 t0
 have HS := hid hs
 have HL := hid hl
 have HB := hid (And.intro hbn h1)
 have hen := eq_code_nil
 clear hs hl hbn h1
 go_enter Tryd.func5, Tryd.ntmps5
 go_wp2_with fail
 refine (plan26_any _).mono ?_
 rintro e w1 ⟨rfl, r1, rfl⟩
 go_wp2_with fail
 generalize hV_ : World.alloc _ _ = V
 have HE_V := hid (show Ext w V by rw [← hV_]; (show Ext _ _; repeat first | (with_reducible first | (refine xH ?_; assumption) | exact xR _ | refine xX ?_ _ | refine xA ?_ _) | refine xD ?_ | refine xN ?_ _ | exact xR _))
 have HB_b4 := hid (show Blk V (w.heap.size) [.slice none 0 0, .slice none 0 0, .slice none 0 0, .slice none 0 0, .map none, .slice none 0 0, .int .i64 0, .slice none 0 0, .slice none 0 0] by rw [← hV_]; (show Blk _ _ _; repeat first | (with_reducible first | (refine xH ?_; assumption) | refine bD ?_ | refine bX ?_ _) | (with_reducible refine bN _ _ rfl ?_; first | with_reducible rfl | (simp; done)) | (with_reducible first | refine bA ?_ _ | assumption | apply bS) | (with_reducible refine bO ?_ ?_; first | omega | (simp; omega)) | (show List.set _ _ _ = _; exact rfl) | (show _ < List.length _; simp; done)))
 have HB_b6 := hid (show Blk V (w.heap.size + 1 + r1.new.size) [.int .i64 3, .int .i64 1, .int .i64 0] by rw [← hV_]; (show Blk _ _ _; repeat first | (with_reducible first | (refine xH ?_; assumption) | refine bD ?_ | refine bX ?_ _) | (with_reducible refine bN _ _ rfl ?_; first | with_reducible rfl | (simp; done)) | (with_reducible first | refine bA ?_ _ | assumption | apply bS) | (with_reducible refine bO ?_ ?_; first | omega | (simp; omega)) | (show List.set _ _ _ = _; exact rfl) | (show _ < List.length _; simp; done)))
 clear hV_
 obtain ⟨b6, hg_b6⟩ : ∃ g, g = w.heap.size + 1 + r1.new.size := ⟨_, rfl⟩
 simp only [← hg_b6] at HB_b6 ⊢
 obtain ⟨b4, hg_b4⟩ : ∃ g, g = w.heap.size := ⟨_, rfl⟩
 simp only [← hg_b4] at HB_b4 ⊢
 have HN_V := hid (show b4 = w.heap.size ∧ b6 = w.heap.size + 1 + r1.new.size ∧ b6 < V.heap.size from ⟨hg_b4, hg_b6, HB_b6.out.1⟩)
 clear hg_b4 hg_b6
 refine (first_any 3 1 0 V (HS.out.of HE_V.out)).mono ?_
 rintro e w2 ⟨v2, rfl, he, hv⟩
 have HE_2 := hid (show Ext V w2 from he)
 have hf := first310
 obtain ⟨L0, hL0⟩ : ∃ x, x = firstL 3 1 0 := ⟨_, rfl⟩
 rw [← hL0] at hv hf
 have hop := Own.openT hv (by omega)
 rw [hf.1] at hop
 obtain ⟨g7, c7, rfl, hb1, hb2⟩ := hop
 have HO := hid (show Own w2 V.heap.size 49 3 wdE (.slice (some ⟨g7, 0, none⟩) 376 c7) L0 from hv)
 have HL0 := hid (And.intro hL0 hf)
 obtain ⟨hx_, b', o', he', hb, hc⟩ := (Sl.of_own wdE_len hv).at hf.2
 obtain ⟨rfl, rfl⟩ : g7 = b' ∧ 0 = o' := by simpa using he'
 have k0 := hc 0 (by omega)
 simp [wdE] at k0
 have kf : ∀ i, w2.frozen? ⟨g7, i, none⟩ = false := by
  obtain ⟨_, cs, h⟩ := own_typed hv rfl
  exact (blk_heap h).2.1
 have kg := hb
 have HN := hid (show (b4 = w.heap.size ∧ b4 < b6) ∧ b6 < g7 ∧ g7 < w2.heap.size ∧ V.heap.size ≤ g7 by have := HN_V.out; omega)
 clear he hv hL0 hf hb1 hb2 hx_ he' hb hc
 go_upto_region 6 with fail
 have hn_ := HN.out
 generalize hV_ : World.setCell _ _ _ = X
 have HG_X := hid (show GrL [g7] w2 X by rw [← hV_]; (show GrL _ _ _; repeat (first | with_reducible exact GrL.refl | ((with_reducible refine GrL.set ?_ ?_ _); rotate_left 1; focus (simp; done)) | ((with_reducible refine GrL.ext ?_ _)) | ((with_reducible refine GrL.alloc ?_ _)) | ((with_reducible refine GrL.drew ?_)))))
 have HOX := hid (show Own X V.heap.size 49 3 wdE (.slice (some ⟨g7, 0, none⟩) 376 c7) (ws26 time) by rw [← hV_]; exact (show ws26 time = L0.set 0 (time, 0, 0) by rw [HL0.out.1]; rfl) ▸ Own.set wdE_len HO.out HL0.out.2.2 (time, 0, 0) (j := 0) (by omega) _ rfl rfl)
 clear hV_
 have hz_b4 := hid (Blk.grl (HB_b4.out.of HE_2.out) HG_X.out (by simp; omega))
 have hz_b6 := hid (Blk.grl (HB_b6.out.of HE_2.out) HG_X.out (by simp; omega))
 clear HB_b4
 have HB_b4 := hz_b4
 clear hz_b4
 clear HB_b6
 have HB_b6 := hz_b6
 clear hz_b6
 clear hn_
 clear k0 kf kg
 have HE_X := hid ((HE_V.out.trans HE_2.out).grl HG_X.out (by have := HN.out; have := HE_V.out.size; simp; omega))
 have a0 := (HB_b6.out).2.2 0 _ rfl
 have a1 := (HB_b6.out).2.2 1 _ rfl
 have a2 := (HB_b6.out).2.2 2 _ rfl
 have af := (HB_b6.out).2.1
 have ag := (HB_b6.out).1
 go_wp2_with fail
 refine (mcnew_any (Sl.of_own wdE_len HOX.out) (by omega) (by omega) 3 (by omega) (by omega) 47 rfl).mono ?_
 rintro e w3 ⟨pa, pc, va, vc, fa, fc, la, sa, rfl, he, hm⟩
 have HE_3 := hid he
 have HMc := hid hm
 clear he hm a0 a1 a2 af ag
 go_wp2_with fail
 generalize hV_ : World.alloc _ _ = Y
 have HE_Y := hid (show Ext w3 Y by rw [← hV_]; (show Ext _ _; repeat first | (with_reducible first | (refine xH ?_; assumption) | exact xR _ | refine xX ?_ _ | refine xA ?_ _) | refine xD ?_ | refine xN ?_ _ | exact xR _))
 have HB_b8 := hid (show Blk Y (w3.heap.size) [.slice pa 376 pc, .slice va 3 vc, .slice fa 376 fc, .slice la 47 47, .map none, .slice sa 3 3, .int .i64 0] by rw [← hV_]; (show Blk _ _ _; repeat first | (with_reducible first | (refine xH ?_; assumption) | refine bD ?_ | refine bX ?_ _) | (with_reducible refine bN _ _ rfl ?_; first | with_reducible rfl | (simp; done)) | (with_reducible first | refine bA ?_ _ | assumption | apply bS) | (with_reducible refine bO ?_ ?_; first | omega | (simp; omega)) | (show List.set _ _ _ = _; exact rfl) | (show _ < List.length _; simp; done)))
 clear hV_
 obtain ⟨b8, hg_b8⟩ : ∃ g, g = w3.heap.size := ⟨_, rfl⟩
 simp only [← hg_b8] at HB_b8 ⊢
 have HN_Y := hid (show b8 = w3.heap.size ∧ b8 < Y.heap.size from ⟨hg_b8, HB_b8.out.1⟩)
 clear hg_b8
 have HB4 := hid (HB_b4.out.of (HE_3.out.trans HE_Y.out))
 have HB6 := hid (HB_b6.out.of (HE_3.out.trans HE_Y.out))
 have HMY := hid (HMc.out.of HE_Y.out)
 have HwY := hid ((HE_X.out.trans HE_3.out).trans HE_Y.out)
 have HNY := hid (show (w.heap.size ≤ b4 ∧ b4 < b6) ∧ X.heap.size ≤ b8 ∧ b8 < Y.heap.size ∧ b6 < X.heap.size ∧ w.heap.size ≤ X.heap.size by have h1 := HN.out; have h2 := HE_3.out.size; have h3 := HN_Y.out; have h4 := HG_X.out.size; have h5 := HE_X.out.size; omega)
 have HNow := hid (fun (W : World) (he : Ext w W) => cnow_any 3 1 0 W (HS.out.of he))
 have HTick := hid (fun (W : World) (he : Ext w W) => ctick_any 3 1 0 W (HS.out.of he))
 rw [made310, err310] at HNow
 rw [made310, err310] at HTick
 clear HB_b4 HB_b6 HN HN_V HE_V HE_2 HO HOX HG_X HL0 HE_3 HMc HN_Y
 go_loopw [10, 37] (fun cdv i_ wr => ∃ j : Nat, j ≤ bn ∧ i_ = .int .i64 j ∧ Hid (Own wr Y.heap.size 55 1 (ifE ckT) cdv ((l.take j).map ckV)) ∧ Hid (Ext Y wr)) (fun _ i_ _ => bn - (intOf i_).toNat)
 case atStart => exact ⟨0, Nat.zero_le _, rfl, hid Own.nil, hid (Ext.refl _)⟩
 case round =>
  rename_i cdv _ _
  obtain ⟨j, hjn, rfl, HO, HE⟩ := hrel
  have HJn := hid hjn
  clear hjn
  by_cases hjm : j < bn
  ·have hjm2 : (j : Int) < (bn : Int) := by omega
   obtain ⟨tt, htt⟩ : ∃ x, l[j]? = some x := ⟨l[j]'(by have := HB.out; omega), List.getElem?_eq_getElem _⟩
   obtain ⟨hx_, cb1, co1, hca, hcb, hcx⟩ := (HL.out.of blE_len (HwY.out.trans HE.out)).at htt
   obtain ⟨rfl, rfl⟩ : cb = cb1 ∧ co = co1 := by simpa using hca
   have x0 := hcx 0 (by omega)
   simp [blE] at x0
   obtain ⟨jq, hjq⟩ : ∃ x, x = j + 1 := ⟨_, rfl⟩
   have hwq : wrap64 ((j : Int) + 1) = (jq : Int) := by have := HB.out; rw [IntWalk.wrap64_in _ (by omega)]; omega
   have HJm := hid hjm
   have HJq := hid hjq
   have HT := hid htt
   clear hjm hx_ hca hcx hjq htt
   have h6 := HB6.out.of HE.out
   have a0 := (h6).2.2 0 _ rfl
   have a1 := (h6).2.2 1 _ rfl
   have a2 := (h6).2.2 2 _ rfl
   have af := (h6).2.1
   have ag := (h6).1
   clear h6
   go_wp2_with fail
   refine (HNow.out _ (HwY.out.trans HE.out)).mono ?_
   rintro e w4 ⟨rfl, he⟩
   have HE4 := hid (HE.out.trans he)
   have he4_ := hid (show Ext wr w4 from he)
   have h6 := HB6.out.of HE4.out
   clear he a0 a1 a2 af ag x0 hcb
   have a0 := (h6).2.2 0 _ rfl
   have a1 := (h6).2.2 1 _ rfl
   have a2 := (h6).2.2 2 _ rfl
   have af := (h6).2.1
   have ag := (h6).1
   clear h6
   cases tt
   ·go_wp2_with (at_builtin; refine if_append rfl _ _ rfl Y (HE4.out.trans (by (show Ext _ _; repeat first | (with_reducible first | (refine xH ?_; assumption) | exact xR _ | refine xX ?_ _ | refine xA ?_ _) | refine xD ?_ | refine xN ?_ _ | exact xR _))) (Nat.le_refl _) (by have h1 := HE4.out.size; simp; omega) rfl (HO.out.of_ext (Ext.alloc (show Ext wr w4 by exact he4_.out) _)) _ 1 1 rfl [ckV false] rfl (blk_news1 (Blk.new _ _ rfl (by simp))) (by have := HB.out; have := HJm.out; simp; omega) ?_; rintro v9 r9 hv9; have HV9 := hid hv9; clear hv9)
    clear a0 a1 a2 af ag
    go_roundw
    case rel => exact ⟨jq, by have := HJq.out; have := HJm.out; omega, by first | rfl | rw [hwq], hid (by rw [HJq.out, take_snoc _ _ _ HT.out, List.map_append]; exact HV9.out), hid ⟨r9, rfl⟩⟩
    case measure => first | exact meas_next HJm.out HJq.out | (rw [hwq]; exact meas_next HJm.out HJq.out)
   ·go_wp2_with fail
    refine (HTick.out _ (HwY.out.trans HE4.out)).mono ?_
    rintro e w5 ⟨rfl, he⟩
    have HE5 := hid (HE4.out.trans he)
    have he5_ := hid (he4_.out.trans he)
    clear he
    go_wp2_with (at_builtin; refine if_append rfl _ _ rfl Y (HE5.out.trans (by (show Ext _ _; repeat first | (with_reducible first | (refine xH ?_; assumption) | exact xR _ | refine xX ?_ _ | refine xA ?_ _) | refine xD ?_ | refine xN ?_ _ | exact xR _))) (Nat.le_refl _) (by have h1 := HE5.out.size; simp; omega) rfl (HO.out.of_ext (Ext.alloc (show Ext wr w5 by exact he5_.out) _)) _ 1 1 rfl [ckV true] rfl (blk_news1 (Blk.new _ _ rfl (by simp))) (by have := HB.out; have := HJm.out; simp; omega) ?_; rintro v9 r9 hv9; have HV9 := hid hv9; clear hv9)
    clear a0 a1 a2 af ag
    go_roundw
    case rel => exact ⟨jq, by have := HJq.out; have := HJm.out; omega, by first | rfl | rw [hwq], hid (by rw [HJq.out, take_snoc _ _ _ HT.out, List.map_append]; exact HV9.out), hid ⟨r9, rfl⟩⟩
    case measure => first | exact meas_next HJm.out HJq.out | (rw [hwq]; exact meas_next HJm.out HJq.out)
  ·have hjn : j = bn := by have := HJn.out; omega
   have hjm2 : ¬ (j : Int) < (bn : Int) := by omega
   have hjm3 : (bn : Int) ≤ (j : Int) := by omega
   clear hjm
   subst hjn
   obtain ⟨ca, cc, rfl⟩ := Own.shape HO.out
   have hjl : ((l.take j).map ckV).length = j := by have := HB.out; simp; omega
   rw [hjl] at HO ⊢
   have htk : l.take j = l := List.take_of_length_le (by have := HB.out; omega)
   have HTk := hid htk
   have h8 := HB_b8.out.of HE.out
   have a0 := (h8).2.2 0 _ rfl
   have a1 := (h8).2.2 1 _ rfl
   have a2 := (h8).2.2 2 _ rfl
   have a3 := (h8).2.2 3 _ rfl
   have a4 := (h8).2.2 4 _ rfl
   have a5 := (h8).2.2 5 _ rfl
   have a6 := (h8).2.2 6 _ rfl
   have af := (h8).2.1
   have ag := (h8).1
   clear h8 hjl htk
   go_wp2_with fail
   refine (wmake_any (K := ckK) (w := wr) (P := fun b => X.heap.size ≤ b ∧ b < wr.heap.size) (fun b h => h.2) none 0 (HMY.out.of HE.out).bnd (cvs := l.map ckV) (cs := l.map ck0) (Sp.imp (Sp.bnd (Sp.own (P := fun b => Y.heap.size ≤ b) (ifE_len _) (by have h := HO.out; rw [HTk.out] at h; exact h) (fun b h => h))) (fun b h => ⟨by have h1 : Y.heap.size ≤ b := h.1; have := HNY.out; omega, h.2⟩)) (by simp) (fun i cv c e1 e2 => ?_) (by have := HB.out; simp; omega) (by have := HB.out; simp; omega) trivial).mono ?_
   ·rw [List.getElem?_map] at e1 e2
    obtain ⟨t1, h1, rfl⟩ := Option.map_eq_some_iff.1 e1
    obtain ⟨t2, h2, rfl⟩ := Option.map_eq_some_iff.1 e2
    rw [h1] at h2
    cases h2
    exact ⟨rfl, by simp [ck0], by simp [ck0]⟩
   rintro e w6 ⟨v', rfl, he, hv⟩
   have HV := hid hv
   obtain ⟨pa', va', fa', la', sa', ta', ba', pn', pc', vn', vc', fn', fc', ln', lc', sn', sc', tn', tc', bn', bc', rfl, -⟩ := hv
   have HE6 := hid he
   have h4 := HB4.out.of (HE.out.trans he)
   clear he a0 a1 a2 a3 a4 a5 a6 af ag
   have a0 := (h4).2.2 0 _ rfl
   have a1 := (h4).2.2 1 _ rfl
   have a2 := (h4).2.2 2 _ rfl
   have a3 := (h4).2.2 3 _ rfl
   have a4 := (h4).2.2 4 _ rfl
   have a5 := (h4).2.2 5 _ rfl
   have a6 := (h4).2.2 6 _ rfl
   have a7 := (h4).2.2 7 _ rfl
   have a8 := (h4).2.2 8 _ rfl
   have af := (h4).2.1
   have ag := (h4).1
   clear h4
   (repeat (first | go_values | go_skip | go_guarded | go_step | go_upon | (simp only [Int.not_lt, Int.not_le] at *; go_simp) | (go_ite <;> go_prune <;> (try go_simp))))
   refine bodyPost_ret (v := .tuple #[.agg #[.slice pa' pn' pc', .slice va' vn' vc', .slice fa' fn' fc', .slice la' ln' lc', .map none, .slice sa' sn' sc', .int .i64 0, .slice ta' tn' tc', .slice ba' bn' bc'], .bool true]) (by simp [results, Tryd.results5, go_sem, a0, a1, a2, a3, a4, a5, a6, a7, a8, af, ag]) rfl ⟨_, rfl, ?_⟩
   generalize hZ_ : World.alloc _ _ = Z
   have hgz : GrL [b4] w6 Z := by rw [← hZ_]; (show GrL _ _ _; repeat (first | with_reducible exact GrL.refl | ((with_reducible refine GrL.set ?_ ?_ _); rotate_left 1; focus (simp; done)) | ((with_reducible refine GrL.ext ?_ _)) | ((with_reducible refine GrL.alloc ?_ _)) | ((with_reducible refine GrL.drew ?_))))
   clear hZ_ a0 a1 a2 a3 a4 a5 a6 a7 a8 af ag
   have hny := HNY.out
   have hs6 := HE6.out.size
   have hsr := HE.out.size
   have hv := HV.out
   simp only [List.map_map, List.length_map] at hv
   refine ⟨((HwY.out.trans HE.out).trans HE6.out).grl hgz (by simp; omega), WV.imp (WV.kp hv (hgz.kp (fun g hg h => ?_))) (fun b h => ?_)⟩
   ·simp only [List.mem_cons, List.not_mem_nil, or_false] at hg
    subst hg
    rcases h with h | h
    ·have := h.1; omega
    ·omega
   ·rcases h with h | h
    ·have := h.1; omega
    ·omega
end Go.Proofs.YtadilekaombofaaDoor
