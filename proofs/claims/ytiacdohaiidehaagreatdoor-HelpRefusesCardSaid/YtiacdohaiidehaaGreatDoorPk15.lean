/- The machine: Do (Look and Swap). -/
import Derived.Test.YtiacdohaiidehaaGreatDoorPk14
namespace Go.Proofs.YtiacdohaiidehaaGreatDoor
set_option linter.unusedSimpArgs false
set_option linter.unusedVariables false
open Go.RowKit Go.Maps
def itvE (i : Int) : List Value := [.int .i64 i]
theorem itvE_len (i : Int) : (itvE i).length = 1 := rfl
theorem itE_one (r : Int) : ∀ u ∈ itvE r, u.oneCell' = true := by intro u hu; simp [itvE] at hu; subst hu; rfl
theorem Tryz.info_it : (Tryz.prog.info? 3).map (fun i => (i.zero, i.size, i.bytes)) = some (some (.int .i64 0), 1, 8) := by kernel_rfl
theorem it_append {ops : Array Oper} {rest : List Oper} {o : Oper} {a : Act} {Q : Exit → Act → World → Prop} {w : World} {base : Nat} {v : Value} {l : List Int} (hgd : o.guard = none)
 (s x : Operand) (ho : o.op = .call { callee := .builtin .append, args := #[s, x], argTypes := #[87, 87] })
 (W : World) (hW : Ext W w) (hWb : W.heap.size ≤ base) (hbw : base ≤ w.heap.size) (hs : a.eval s = v) (hown : Own w base 3 1 itvE v l)
 (ad : Addr) (m c : Nat) (hx : a.eval x = .slice (some ad) m c) (news : List Int) (hm : news.length = m)
 (hnews : ∀ (j : Nat) (u : Value), (news.flatMap itvE)[j]? = some u → w.cell? (ad.add j) = some u)
 (hlen : l.length + m ≤ 1000000)
 (h : ∀ v' r, Own (ext W r) base 3 1 itvE v' (l ++ news) → wpList Tryz.prog ops Q rest (a.put o.dst v') (ext W r)) : wpList Tryz.prog ops Q (o :: rest) a w := by
 obtain ⟨i0, hi, hz0, hz1, hz2⟩ := info_parts Tryz.info_it
 exact own_append (Tryz.underlying87) hi hz0 hz1 hz2 rfl (by decide) itvE_len itE_one hgd s x ho W hW hWb hbw hs hown ad m c hx news hm hnews (by unfold maxLen; omega) (by omega) h
set_option maxHeartbeats 1000000 in
theorem it_clone (l : List Int) (v : Value) (w : World) (hl : l.length ≤ 100000) (hv : Sl w 1 itvE v l) :
 Calls Tryz.prog 99 #[v] w fun y w' => ∃ v', y = .returned v' ∧ (∃ r, w' = ext w r) ∧ Own w' w.heap.size 3 1 itvE v' l := by
 have HV := hid hv
 obtain ⟨a, c, rfl, ⟨hm, hlc⟩, hr⟩ := hv
 have hnil := fun (w : World) (a : Option Addr) (n c : Nat) => Lib.run_eql_slice_nil (P := Tryz.prog) w 87 3 a n c 0 0 (Tryz.underlying87)
 cases a with
 | none =>
  have hl0 : l = [] := by
   cases l with
   | nil => rfl
   | cons x r => obtain ⟨b, o, h, _⟩ := hr (by simp); cases h
  clear hr HV
  go_enter Tryz.func99, Tryz.ntmps99
  go_wp2_with fail
  go_ret
  exact ⟨_, rfl, by exact exP, by rw [hl0]; exact Own.nil⟩
 | some ad =>
  have HF := hid (Sl.flat itvE_len (by omega) HV.out)
  have hb : w.heap.size ≤ (w.alloc (.cells #[] 3)).heap.size := by simp
  clear hr HV
  go_enter Tryz.func99, Tryz.ntmps99
  go_wp2_with (at_builtin; refine it_append rfl _ _ rfl w (by exact exP) (Nat.le_refl _) (by (first | exact Nat.le_refl _ | (simp; done) | (simp; omega))) rfl (Own.made #[] [] 0 rfl (Nat.le_refl _) (by unfold maxLen; omega) rfl rfl) ad l.length c rfl l rfl (fun j u hu => Ext.cell (Ext.of_alloc _ _) (HF.out j u hu)) (by simp; omega) ?_; rintro v' r' hv')
  go_ret
  exact ⟨_, rfl, by exact exP, hv'⟩
structure Mc where
 me : Me
 ln : Ln
 st : List Int
abbrev mcD : List TypeId := memD ++ lnD ++ [3]
def McR (w : World) (P : Nat → Prop) (pv vv fv lv sv : Value) (m : Mc) : Prop := MeR w P pv vv m.me ∧ LnR w P fv lv m.ln ∧ Sp w P 1 itvE sv m.st
section
variable {w w' : World} {P : Nat → Prop} {pv vv fv lv sv : Value} {m : Mc}
theorem McR.kp (h : McR w P pv vv fv lv sv m) (k : KpB P w w') : McR w' P pv vv fv lv sv m := ⟨h.1.kp k, h.2.1.kp k, h.2.2.kp itvE_len k⟩
theorem McR.of (h : McR w P pv vv fv lv sv m) (he : Ext w w') : McR w' P pv vv fv lv sv m := h.kp (KpB.of_ext he)
theorem McR.imp (h : McR w P pv vv fv lv sv m) {P' : Nat → Prop} (hp : ∀ b, P b → P' b) : McR w P' pv vv fv lv sv m := ⟨h.1.imp hp, h.2.1.imp hp, h.2.2.imp hp⟩
end
set_option maxRecDepth 100000 in
set_option maxHeartbeats 1000000 in
theorem mcdo_look {w : World} {P : Nat → Prop} (hP : ∀ b, P b → b < w.heap.size) {pa va fa la sa : Option Addr} {pn pc vn vc fn fc ln lc sn sc : Nat} {m : Mc} (h : McR w P (.slice pa pn pc) (.slice va vn vc) (.slice fa fn fc) (.slice la ln lc) (.slice sa sn sc) m) (q : Option Nat) (cr : Int) (t ti : Nat) (ht : t = ti + 1) (f : Int → Nat) (hf : m.me.vs[ti]? = some f) (hvn : vn ≤ 1000) (hpn : pn ≤ 4096) (htv : t ≤ vn) (s : Int) (hs : m.st[ti]? = some s) (hs0 : 0 ≤ s ∧ s ≤ 1000000) (hsn : m.st.length ≤ 1000)
 (at_ : Nat) (hap : at_ < pn) (l : List Mg) (hl : m.me.pl[at_]? = some l) (x1 x2 x3 x4 : Int) (g : Int → Nat) (hm : l[l.length - 1]? = some ⟨(x1, x2, x3), x4, g⟩) (hi : l.length ≤ 900000) (o1 o2 o3 y1 y2 y3 ch : Int) :
 Calls Tryz.prog 100 #[.agg #[.slice pa pn pc, .slice va vn vc, .slice fa fn fc, .slice la ln lc, .map q, .slice sa sn sc, .int .i64 cr], .int .i64 t, .agg #[.int .i64 5, .int .i64 at_, .int .i64 o1, .int .u32 o2, .int .u32 o3, .int .i64 y1, .int .u32 y2, .int .u32 y3], .int .i64 ch] w fun e w' => ∃ va' vc' sa' sc', e = .returned (.tuple #[.agg #[.slice pa pn pc, .slice va' vn vc', .slice fa fn fc, .slice la ln lc, .map q, .slice sa' sn sc', .int .i64 cr], .agg #[.int .i64 x1, .int .u32 x2, .int .u32 x3, .bool true], .int .i64 0]) ∧ (Ext w w' ∧ McR w' (fun b => P b ∨ NewB mcD w w' b) (.slice pa pn pc) (.slice va' vn vc') (.slice fa fn fc) (.slice la ln lc) (.slice sa' sn sc') ⟨meFinds m.me ti at_ (l.length - 1) true f g, m.ln, m.st.set ti (s + 1)⟩) := by
 have H := hid h
 have HP := hid hP
 have HF := hid hf
 have HM := hid hm
 have HT := hid ht
 have HI := hid hi
 have HVn := hid (And.intro hvn hpn)
 have HLl := hid hl
 have HS := hid (And.intro hs (And.intro hs0 hsn))
 have HTv := hid (show 1 ≤ (t : Int) ∧ (t : Int) ≤ (vn : Int) by omega)
 have HAt := hid (show 0 ≤ (at_ : Int) ∧ (at_ : Int) < (pn : Int) by omega)
 have hsl : sn = m.st.length := by obtain ⟨a', c', hv, _⟩ := h.2.2.1; simp only [Value.slice.injEq] at hv; exact hv.2.1
 have htl : ti < m.st.length := (List.getElem?_eq_some_iff.1 hs).1
 have HSl := hid (And.intro hsl htl)
 have HW1 := hid (show wrap64 ((t : Int) - 1) = (ti : Int) by rw [show (t : Int) - 1 = (ti : Int) by omega]; exact IntWalk.wrap64_in _ (by omega))
 have HW2 := hid (show wrap64 (s + 1) = s + 1 from IntWalk.wrap64_in _ (by omega))
 have HTs := hid (show (ti : Int) < (sn : Int) by omega)
 clear h hP hf hm ht hi hvn hpn hl hs hs0 hsn htv hap hsl htl
 go_enter Tryz.func100, Tryz.ntmps100
 go_wp2_with fail
 generalize hV_ : World.alloc _ _ = V
 have HE_V := hid (show Ext w V by rw [← hV_]; exact exP)
 have HB_g4 := hid (show Blk V (w.heap.size) [.slice pa pn pc, .slice va vn vc, .slice fa fn fc, .slice la ln lc, .map q, .slice sa sn sc, .int .i64 cr] by rw [← hV_]; exact bkP)
 have HB_g6 := hid (show Blk V (w.heap.size + 1) [.int .i64 5, .int .i64 at_, .int .i64 o1, .int .u32 o2, .int .u32 o3, .int .i64 y1, .int .u32 y2, .int .u32 y3] by rw [← hV_]; exact bkP)
 have HB_g8 := hid (show Blk V (w.heap.size + 1 + 1) [.slice none 0 0, .slice none 0 0, .slice none 0 0, .slice none 0 0, .map none, .slice none 0 0, .int .i64 0] by rw [← hV_]; exact bkP)
 have HB_g9 := hid (show Blk V (w.heap.size + 1 + 1 + 1) [.int .i64 0, .int .u32 0, .int .u32 0, .bool false] by rw [← hV_]; exact bkP)
 clear hV_
 obtain ⟨g9, hg_g9⟩ : ∃ g, g = w.heap.size + 1 + 1 + 1 := ⟨_, rfl⟩
 simp only [← hg_g9] at HB_g9 ⊢
 obtain ⟨g8, hg_g8⟩ : ∃ g, g = w.heap.size + 1 + 1 := ⟨_, rfl⟩
 simp only [← hg_g8] at HB_g8 ⊢
 obtain ⟨g6, hg_g6⟩ : ∃ g, g = w.heap.size + 1 := ⟨_, rfl⟩
 simp only [← hg_g6] at HB_g6 ⊢
 obtain ⟨g4, hg_g4⟩ : ∃ g, g = w.heap.size := ⟨_, rfl⟩
 simp only [← hg_g4] at HB_g4 ⊢
 have HN_V := hid (show g4 = w.heap.size ∧ g6 = w.heap.size + 1 ∧ g8 = w.heap.size + 1 + 1 ∧ g9 = w.heap.size + 1 + 1 + 1 ∧ g9 < V.heap.size from ⟨hg_g4, hg_g6, hg_g8, hg_g9, HB_g9.out.1⟩)
 clear hg_g4 hg_g6 hg_g8 hg_g9
 refine (mccheck_any pa va fa la sa pn pc vn vc fn fc ln lc sn sc q cr 5 (by omega) t at_ HTv.out HAt.out o1 o2 o3 y1 y2 y3 V).mono ?_
 rintro e V1 ⟨rfl, he⟩
 have HE_1 := hid (show Ext V V1 from he)
 have h6 := HB_g6.out.of he
 clear he
 have e0 := (h6).2.2 0 _ rfl
 have e1 := (h6).2.2 1 _ rfl
 have e2 := (h6).2.2 2 _ rfl
 have e3 := (h6).2.2 3 _ rfl
 have e4 := (h6).2.2 4 _ rfl
 have e5 := (h6).2.2 5 _ rfl
 have e6 := (h6).2.2 6 _ rfl
 have e7 := (h6).2.2 7 _ rfl
 have ef := (h6).2.1
 have eg := (h6).1
 clear h6
 go_wp2_with fail
 generalize hV_ : World.alloc _ _ = V2
 have HE_V2 := hid (show Ext V1 V2 by rw [← hV_]; exact exP)
 have HB_g12 := hid (show Blk V2 (V1.heap.size) [.int .i64 0, .int .u32 0, .int .u32 0, .bool true] by rw [← hV_]; exact bkP)
 clear hV_
 obtain ⟨g12, hg_g12⟩ : ∃ g, g = V1.heap.size := ⟨_, rfl⟩
 simp only [← hg_g12] at HB_g12 ⊢
 have HN_V2 := hid (show g12 = V1.heap.size ∧ g12 < V2.heap.size from ⟨hg_g12, HB_g12.out.1⟩)
 clear hg_g12
 clear e0 e1 e2 e3 e4 e5 e6 e7 ef eg
 refine (mcchanges_any 5 (by omega) at_ o1 o2 o3 y1 y2 y3 V2).mono ?_
 rintro e V3 ⟨rfl, he⟩
 have HE_3 := hid (((HE_V.out.trans HE_1.out).trans HE_V2.out).trans (show Ext V2 V3 from he))
 have HN := hid (show (w.heap.size ≤ g4 ∧ g4 < g6 ∧ g6 < g8 ∧ g8 < g9 ∧ g9 < g12) ∧ g12 < V3.heap.size by have h1 := HN_V.out; have h2 := HN_V2.out; have h3 := HE_1.out.size; have h4 := (show Ext V2 V3 from he).size; omega)
 have HE_13 := hid ((HE_1.out.trans HE_V2.out).trans (show Ext V2 V3 from he))
 have h4 := HB_g4.out.of HE_13.out
 have h6 := HB_g6.out.of HE_13.out
 have h8 := HB_g8.out.of HE_13.out
 have h9 := HB_g9.out.of HE_13.out
 have h12 := HB_g12.out.of he
 clear HB_g4 HB_g6 HB_g8 HB_g9 HB_g12 HN_V HN_V2 HE_1 HE_V2 HE_V HE_13 he
 have HB_g4 := hid h4
 have HB_g6 := hid h6
 have HB_g8 := hid h8
 have HB_g9 := hid h9
 have HB_g12 := hid h12
 have a0 := (h4).2.2 0 _ rfl
 have a1 := (h4).2.2 1 _ rfl
 have a2 := (h4).2.2 2 _ rfl
 have a3 := (h4).2.2 3 _ rfl
 have a4 := (h4).2.2 4 _ rfl
 have a5 := (h4).2.2 5 _ rfl
 have a6 := (h4).2.2 6 _ rfl
 have af := (h4).2.1
 have ag := (h4).1
 have e0 := (h6).2.2 0 _ rfl
 have e1 := (h6).2.2 1 _ rfl
 have e2 := (h6).2.2 2 _ rfl
 have e3 := (h6).2.2 3 _ rfl
 have e4 := (h6).2.2 4 _ rfl
 have e5 := (h6).2.2 5 _ rfl
 have e6 := (h6).2.2 6 _ rfl
 have e7 := (h6).2.2 7 _ rfl
 have ef := (h6).2.1
 have eg := (h6).1
 clear h4 h6 h8 h9 h12
 go_wp2_with fail
 refine (mcread_any (P := P) (fun b h => Nat.lt_of_lt_of_le (HP.out b h) HE_3.out.size) (H.out.1.of HE_3.out) fa la sa fn fc ln lc sn sc q cr t ti HT.out f HF.out HVn.out.1 (by have := HVn.out; omega) at_ l HLl.out x1 x2 x3 x4 g HM.out (by have := HI.out; omega) o1 o2 o3 y1 y2 y3 ch).mono ?_
 rintro e w2 ⟨va', vc', rfl, he, hm⟩
 have HX := hid he
 have HMe := hid hm
 clear he hm a0 a1 a2 a3 a4 a5 a6 af ag e0 e1 e2 e3 e4 e5 e6 e7 ef eg
 have h4 := HB_g4.out.of HX.out
 have h12 := HB_g12.out.of HX.out
 have a0 := (h4).2.2 0 _ rfl
 have a1 := (h4).2.2 1 _ rfl
 have a2 := (h4).2.2 2 _ rfl
 have a3 := (h4).2.2 3 _ rfl
 have a4 := (h4).2.2 4 _ rfl
 have a5 := (h4).2.2 5 _ rfl
 have a6 := (h4).2.2 6 _ rfl
 have af := (h4).2.1
 have ag := (h4).1
 have c0 := (h12).2.2 0 _ rfl
 have c1 := (h12).2.2 1 _ rfl
 have c2 := (h12).2.2 2 _ rfl
 have c3 := (h12).2.2 3 _ rfl
 have cf := (h12).2.1
 have cg := (h12).1
 clear h4 h12
 have d_g4_g8 : ¬ g4 = g8 := by have hn_ := HN.out; omega
 have d_g4_g9 : ¬ g4 = g9 := by have hn_ := HN.out; omega
 have d_g4_g12 : ¬ g4 = g12 := by have hn_ := HN.out; omega
 have d_g8_g4 : ¬ g8 = g4 := by have hn_ := HN.out; omega
 have d_g8_g9 : ¬ g8 = g9 := by have hn_ := HN.out; omega
 have d_g8_g12 : ¬ g8 = g12 := by have hn_ := HN.out; omega
 have d_g9_g4 : ¬ g9 = g4 := by have hn_ := HN.out; omega
 have d_g9_g8 : ¬ g9 = g8 := by have hn_ := HN.out; omega
 have d_g9_g12 : ¬ g9 = g12 := by have hn_ := HN.out; omega
 have d_g12_g4 : ¬ g12 = g4 := by have hn_ := HN.out; omega
 have d_g12_g8 : ¬ g12 = g8 := by have hn_ := HN.out; omega
 have d_g12_g9 : ¬ g12 = g9 := by have hn_ := HN.out; omega
 go_wp2_with fail
 have hn_ := HN.out
 have h_g4 := (HB_g4.out.of HX.out)
 have h_g12 := (HB_g12.out.of HX.out)
 generalize hV_ : World.setCell _ _ _ = W
 have HG_W := hid (show GrL [g4, g12] w2 W by rw [← hV_]; exact glP)
 have hz_g4 := hid (show Blk W g4 [.slice pa pn pc, .slice va' vn vc', .slice fa fn fc, .slice la ln lc, .map q, .slice sa sn sc, .int .i64 cr] by rw [← hV_]; exact bcP)
 have hz_g12 := hid (show Blk W g12 [.int .i64 x1, .int .u32 x2, .int .u32 x3, .bool true] by rw [← hV_]; exact bcP)
 clear hV_ h_g4 h_g12
 have hz_g8 := hid (Blk.grl (HB_g8.out.of HX.out) HG_W.out (by simp; omega))
 have hz_g9 := hid (Blk.grl (HB_g9.out.of HX.out) HG_W.out (by simp; omega))
 clear HB_g4
 have HB_g4 := hz_g4
 clear hz_g4
 clear HB_g12
 have HB_g12 := hz_g12
 clear hz_g12
 clear HB_g8
 have HB_g8 := hz_g8
 clear hz_g8
 clear HB_g9
 have HB_g9 := hz_g9
 clear hz_g9
 clear hn_
 clear a0 a1 a2 a3 a4 a5 a6 af ag c0 c1 c2 c3 cf cg
 have HE_W := hid ((HE_3.out.trans HX.out).grl HG_W.out (by have := HN.out; simp; omega))
 refine (it_clone m.st (.slice sa sn sc) W (by have := HS.out.2.2; omega) (H.out.2.2.1.of itvE_len HE_W.out)).mono ?_
 rintro e w3 ⟨v', rfl, he, hv⟩
 have HX3 := hid (show Ext W w3 from he)
 have hop := Own.openT hv (by have := HSl.out; omega)
 rw [← HSl.out.1] at hop
 obtain ⟨gl, sc', rfl, hb1, hb2⟩ := hop
 have HO := hid hv
 have HGl := hid (And.intro hb1 hb2)
 obtain ⟨hx_, b', o', he', hb, hc⟩ := (Sl.of_own itvE_len hv).at HS.out.1
 obtain ⟨rfl, rfl⟩ : gl = b' ∧ 0 = o' := by simpa using he'
 have k0 := hc 0 (by omega)
 have kf : ∀ i, w3.frozen? ⟨gl, i, none⟩ = false := by
  obtain ⟨_, cs, h⟩ := own_typed hv rfl
  exact (blk_heap h).2.1
 have kg := hb
 simp [itvE] at k0
 have h4 := HB_g4.out.of HX3.out
 have hgw := HB_g12.out.1
 have hgw2 := HB_g9.out.1
 have hn := HN.out
 have d_gl_g4 : ¬ gl = g4 := by omega
 have d_g4_gl : ¬ g4 = gl := by omega
 have d_gl_g8 : ¬ gl = g8 := by omega
 have d_gl_g9 : ¬ gl = g9 := by omega
 have d_gl_g12 : ¬ gl = g12 := by omega
 have HNl := hid (show (w.heap.size ≤ g4 ∧ g4 < g6 ∧ g6 < g8 ∧ g8 < g9 ∧ g9 < g12) ∧ g12 < gl ∧ g12 < V3.heap.size ∧ w2.heap.size ≤ gl by have := HG_W.out.size; omega)
 clear he hv hb1 hb2 hc he' hb hgw hgw2 hn hx_
 have a0 := (h4).2.2 0 _ rfl
 have a1 := (h4).2.2 1 _ rfl
 have a2 := (h4).2.2 2 _ rfl
 have a3 := (h4).2.2 3 _ rfl
 have a4 := (h4).2.2 4 _ rfl
 have a5 := (h4).2.2 5 _ rfl
 have a6 := (h4).2.2 6 _ rfl
 have af := (h4).2.1
 have ag := (h4).1
 clear h4
 have hw1 := HW1.out
 have hw2 := HW2.out
 have hts := HTs.out
 go_upto_region 15 with fail
 have hn_ := HNl.out
 have h_g4 := (HB_g4.out.of HX3.out)
 generalize hV_ : World.setCell _ _ _ = Y
 have HG_Y := hid (show GrL [g4, gl] w3 Y by rw [← hV_]; exact glP)
 have hz_g4 := hid (show Blk Y g4 [.slice pa pn pc, .slice va' vn vc', .slice fa fn fc, .slice la ln lc, .map q, .slice (some ⟨gl, 0, none⟩) sn sc', .int .i64 cr] by rw [← hV_]; exact bcP)
 have HOY := hid (show Own Y W.heap.size 3 1 itvE (.slice (some ⟨gl, 0, none⟩) sn sc') (m.st.set ti (s + 1)) by rw [← hV_]; exact Own.set itvE_len (HO.out.under (by have := HB_g4.out.1; omega) _) HS.out.1 (s + 1) (j := 0) (by omega) _ rfl (by omega))
 clear hV_ h_g4
 have hz_g8 := hid (Blk.grl (HB_g8.out.of HX3.out) HG_Y.out (by simp; omega))
 have hz_g9 := hid (Blk.grl (HB_g9.out.of HX3.out) HG_Y.out (by simp; omega))
 have hz_g12 := hid (Blk.grl (HB_g12.out.of HX3.out) HG_Y.out (by simp; omega))
 clear HB_g4
 have HB_g4 := hz_g4
 clear hz_g4
 clear HB_g8
 have HB_g8 := hz_g8
 clear hz_g8
 clear HB_g9
 have HB_g9 := hz_g9
 clear hz_g9
 clear HB_g12
 have HB_g12 := hz_g12
 clear hz_g12
 clear hn_
 clear a0 a1 a2 a3 a4 a5 a6 af ag k0 kf kg hw1 hw2 hts
 have b0 := (HB_g8.out).2.2 0 _ rfl
 have b1 := (HB_g8.out).2.2 1 _ rfl
 have b2 := (HB_g8.out).2.2 2 _ rfl
 have b3 := (HB_g8.out).2.2 3 _ rfl
 have b4 := (HB_g8.out).2.2 4 _ rfl
 have b5 := (HB_g8.out).2.2 5 _ rfl
 have b6 := (HB_g8.out).2.2 6 _ rfl
 have bf := (HB_g8.out).2.1
 have bg := (HB_g8.out).1
 have d0 := (HB_g9.out).2.2 0 _ rfl
 have d1 := (HB_g9.out).2.2 1 _ rfl
 have d2 := (HB_g9.out).2.2 2 _ rfl
 have d3 := (HB_g9.out).2.2 3 _ rfl
 have df := (HB_g9.out).2.1
 have dg := (HB_g9.out).1
 have HSt_ := hid (show ∀ w', GrL [g8, g9] Y w' → (fun w' => (w'.cell? ⟨g4, 0, none⟩ = some (.slice pa pn pc) ∧ w'.cell? ⟨g4, 1, none⟩ = some (.slice va' vn vc') ∧ w'.cell? ⟨g4, 2, none⟩ = some (.slice fa fn fc) ∧ w'.cell? ⟨g4, 3, none⟩ = some (.slice la ln lc) ∧ w'.cell? ⟨g4, 4, none⟩ = some (.map q) ∧ w'.cell? ⟨g4, 5, none⟩ = some (.slice (some ⟨gl, 0, none⟩) sn sc') ∧ w'.cell? ⟨g4, 6, none⟩ = some (.int .i64 cr) ∧ g4 < w'.heap.size) ∧ (w'.cell? ⟨g12, 0, none⟩ = some (.int .i64 x1) ∧ w'.cell? ⟨g12, 1, none⟩ = some (.int .u32 x2) ∧ w'.cell? ⟨g12, 2, none⟩ = some (.int .u32 x3) ∧ w'.cell? ⟨g12, 3, none⟩ = some (.bool true) ∧ g12 < w'.heap.size)) w' from fun w' G_ => by have h0_ := Blk.grl HB_g4.out G_ (by have := HNl.out; simp; omega); have h1_ := Blk.grl HB_g12.out G_ (by have := HNl.out; simp; omega); exact ⟨⟨h0_.2.2 0 _ rfl, h0_.2.2 1 _ rfl, h0_.2.2 2 _ rfl, h0_.2.2 3 _ rfl, h0_.2.2 4 _ rfl, h0_.2.2 5 _ rfl, h0_.2.2 6 _ rfl, h0_.1⟩, ⟨h1_.2.2 0 _ rfl, h1_.2.2 1 _ rfl, h1_.2.2 2 _ rfl, h1_.2.2 3 _ rfl, h1_.1⟩⟩)
 refine wp_region_held_drew (S := fun w' => (w'.cell? ⟨g4, 0, none⟩ = some (.slice pa pn pc) ∧ w'.cell? ⟨g4, 1, none⟩ = some (.slice va' vn vc') ∧ w'.cell? ⟨g4, 2, none⟩ = some (.slice fa fn fc) ∧ w'.cell? ⟨g4, 3, none⟩ = some (.slice la ln lc) ∧ w'.cell? ⟨g4, 4, none⟩ = some (.map q) ∧ w'.cell? ⟨g4, 5, none⟩ = some (.slice (some ⟨gl, 0, none⟩) sn sc') ∧ w'.cell? ⟨g4, 6, none⟩ = some (.int .i64 cr) ∧ g4 < w'.heap.size) ∧ (w'.cell? ⟨g12, 0, none⟩ = some (.int .i64 x1) ∧ w'.cell? ⟨g12, 1, none⟩ = some (.int .u32 x2) ∧ w'.cell? ⟨g12, 2, none⟩ = some (.int .u32 x3) ∧ w'.cell? ⟨g12, 3, none⟩ = some (.bool true) ∧ g12 < w'.heap.size)) (by kernel_rfl) (by exact HSt_.out _ (by exact glP)) (fun hHeld => ?_)
 refine tkm 0 (v := ?_) rfl ?_ ?_
 rotate_left 1
 ·intro w hSw
  try dsimp only at hSw
  go_simp
  try with_reducible rfl
 (try simp only [Act.put, pA, pB, pC])
 refine tkm 1 (v := ?_) rfl ?_ ?_
 rotate_left 1
 ·intro w hSw
  try dsimp only at hSw
  go_simp
  try with_reducible rfl
 (try simp only [Act.put, pA, pB, pC])
 refine take_only 2 (oi := ⟨_, _, _, _, _, _⟩) (by kernel_rfl) rfl (fun K hK => ?_)
 go_simp
 have hOld := hHeld
 clear hHeld
 refine hK.out _ _ (by exact HSt_.out _ (by exact glP)) (fun hHeld => ?_)
 clear hOld hK K
 (try simp only [Act.put, pA, pB, pC])
 refine take_only 3 (oi := ⟨_, _, _, _, _, _⟩) (by kernel_rfl) rfl (fun K hK => ?_)
 go_simp
 have hOld := hHeld
 clear hHeld
 refine hK.out _ _ (by exact HSt_.out _ (by exact glP)) (fun hHeld => ?_)
 clear hOld hK K
 (try simp only [Act.put, pA, pB, pC])
 refine tkm 4 (v := ?_) rfl ?_ ?_
 rotate_left 1
 ·intro w hSw
  try dsimp only at hSw
  go_simp
  try with_reducible rfl
 (try simp only [Act.put, pA, pB, pC])
 refine wpAnyH_done (by kernel_rfl) ?_ _
 clear hHeld
 (repeat (first | go_values | go_skip | go_guarded | go_step | go_upon | (simp only [Int.not_lt, Int.not_le] at *; go_simp) | (go_ite <;> go_prune <;> (try go_simp))))
 refine bodyPost_ret (v := .tuple #[.agg #[.slice pa pn pc, .slice va' vn vc', .slice fa fn fc, .slice la ln lc, .map q, .slice (some ⟨gl, 0, none⟩) sn sc', .int .i64 cr], .agg #[.int .i64 x1, .int .u32 x2, .int .u32 x3, .bool true], .int .i64 0]) (by simp [results, Tryz.results100, go_sem, b0, b1, b2, b3, b4, b5, b6, bf, bg, d0, d1, d2, d3, df, dg, d_g8_g9, d_g9_g8]) rfl ⟨va', vc', _, sc', rfl, ?_⟩
 generalize hZ_ : World.drew _ = Z
 have hgz : GrL [g8, g9] Y Z := by rw [← hZ_]; exact glP
 clear hZ_
 have hz1 : GrL [g4, g12, gl, g8, g9] w2 Z := ((HG_W.out.wide (by simp)).trans ((GrL.of_ext HX3.out).trans (HG_Y.out.wide (by simp)))).trans (hgz.wide (by simp))
 refine ⟨(HE_3.out.trans HX.out).grl hz1 (by have := HNl.out; simp; omega), ?_, ?_, ?_⟩
 ·exact (me_end HP.out HE_3.out HX.out (by have := HNl.out; simp; omega) HMe.out hz1).2.imp (fun _ h => h.imp id (fun h => h.wide (by simp)))
 ·exact (H.out.2.1.of ((HE_3.out.trans HX.out).grl hz1 (by have := HNl.out; simp; omega))).imp (fun _ h => .inl h)
 ·have ho := HOY.out.grl hgz (by have := HNl.out; have := HGl.out; simp [Value.ownBlock]; omega)
  exact (Sp.ownN (w0 := w) (D := mcD) itvE_len ho HE_W.out.size (by simp)).imp (fun b h => .inr h.2)
set_option maxRecDepth 100000 in
set_option maxHeartbeats 1000000 in
theorem mcdo_miss {w : World} {P : Nat → Prop} (hP : ∀ b, P b → b < w.heap.size) {pa va fa la sa : Option Addr} {pn pc vn vc fn fc ln lc sn sc : Nat} {m : Mc} (h : McR w P (.slice pa pn pc) (.slice va vn vc) (.slice fa fn fc) (.slice la ln lc) (.slice sa sn sc) m) (q : Option Nat) (cr : Int) (t ti : Nat) (ht : t = ti + 1) (f : Int → Nat) (hf : m.me.vs[ti]? = some f) (hvn : vn ≤ 1000) (hpn : pn ≤ 4096) (htv : t ≤ vn) (s : Int) (hs : m.st[ti]? = some s) (hs0 : 0 ≤ s ∧ s ≤ 1000000) (hsn : m.st.length ≤ 1000)
 (at_ : Nat) (hap : at_ < pn) (l : List Mg) (hl : m.me.pl[at_]? = some l) (x1 x2 x3 x4 : Int) (g : Int → Nat) (hm : l[l.length - 1]? = some ⟨(x1, x2, x3), x4, g⟩) (hi : l.length ≤ 900000) (o1 o2 o3 y1 y2 y3 ch : Int) (hne : ¬ (x1 = o1 ∧ x2 = o2 ∧ x3 = o3)) :
 Calls Tryz.prog 100 #[.agg #[.slice pa pn pc, .slice va vn vc, .slice fa fn fc, .slice la ln lc, .map q, .slice sa sn sc, .int .i64 cr], .int .i64 t, .agg #[.int .i64 6, .int .i64 at_, .int .i64 o1, .int .u32 o2, .int .u32 o3, .int .i64 y1, .int .u32 y2, .int .u32 y3], .int .i64 ch] w fun e w' => ∃ va' vc' sa' sc', e = .returned (.tuple #[.agg #[.slice pa pn pc, .slice va' vn vc', .slice fa fn fc, .slice la ln lc, .map q, .slice sa' sn sc', .int .i64 cr], .agg #[.int .i64 x1, .int .u32 x2, .int .u32 x3, .bool false], .int .i64 0]) ∧ (Ext w w' ∧ McR w' (fun b => P b ∨ NewB mcD w w' b) (.slice pa pn pc) (.slice va' vn vc') (.slice fa fn fc) (.slice la ln lc) (.slice sa' sn sc') ⟨meFinds m.me ti at_ (l.length - 1) true f g, m.ln, m.st.set ti (s + 1)⟩) := by
 have H := hid h
 have HP := hid hP
 have HF := hid hf
 have HM := hid hm
 have HT := hid ht
 have HI := hid hi
 have HVn := hid (And.intro hvn hpn)
 have HLl := hid hl
 have HS := hid (And.intro hs (And.intro hs0 hsn))
 have HTv := hid (show 1 ≤ (t : Int) ∧ (t : Int) ≤ (vn : Int) by omega)
 have HAt := hid (show 0 ≤ (at_ : Int) ∧ (at_ : Int) < (pn : Int) by omega)
 have hsl : sn = m.st.length := by obtain ⟨a', c', hv, _⟩ := h.2.2.1; simp only [Value.slice.injEq] at hv; exact hv.2.1
 have htl : ti < m.st.length := (List.getElem?_eq_some_iff.1 hs).1
 have HSl := hid (And.intro hsl htl)
 have HW1 := hid (show wrap64 ((t : Int) - 1) = (ti : Int) by rw [show (t : Int) - 1 = (ti : Int) by omega]; exact IntWalk.wrap64_in _ (by omega))
 have HW2 := hid (show wrap64 (s + 1) = s + 1 from IntWalk.wrap64_in _ (by omega))
 have HTs := hid (show (ti : Int) < (sn : Int) by omega)
 clear h hP hf hm ht hi hvn hpn hl hs hs0 hsn htv hap hsl htl
 have HNe := hid hne
 clear hne
 go_enter Tryz.func100, Tryz.ntmps100
 go_wp2_with fail
 generalize hV_ : World.alloc _ _ = V
 have HE_V := hid (show Ext w V by rw [← hV_]; exact exP)
 have HB_g4 := hid (show Blk V (w.heap.size) [.slice pa pn pc, .slice va vn vc, .slice fa fn fc, .slice la ln lc, .map q, .slice sa sn sc, .int .i64 cr] by rw [← hV_]; exact bkP)
 have HB_g6 := hid (show Blk V (w.heap.size + 1) [.int .i64 6, .int .i64 at_, .int .i64 o1, .int .u32 o2, .int .u32 o3, .int .i64 y1, .int .u32 y2, .int .u32 y3] by rw [← hV_]; exact bkP)
 have HB_g8 := hid (show Blk V (w.heap.size + 1 + 1) [.slice none 0 0, .slice none 0 0, .slice none 0 0, .slice none 0 0, .map none, .slice none 0 0, .int .i64 0] by rw [← hV_]; exact bkP)
 have HB_g9 := hid (show Blk V (w.heap.size + 1 + 1 + 1) [.int .i64 0, .int .u32 0, .int .u32 0, .bool false] by rw [← hV_]; exact bkP)
 clear hV_
 obtain ⟨g9, hg_g9⟩ : ∃ g, g = w.heap.size + 1 + 1 + 1 := ⟨_, rfl⟩
 simp only [← hg_g9] at HB_g9 ⊢
 obtain ⟨g8, hg_g8⟩ : ∃ g, g = w.heap.size + 1 + 1 := ⟨_, rfl⟩
 simp only [← hg_g8] at HB_g8 ⊢
 obtain ⟨g6, hg_g6⟩ : ∃ g, g = w.heap.size + 1 := ⟨_, rfl⟩
 simp only [← hg_g6] at HB_g6 ⊢
 obtain ⟨g4, hg_g4⟩ : ∃ g, g = w.heap.size := ⟨_, rfl⟩
 simp only [← hg_g4] at HB_g4 ⊢
 have HN_V := hid (show g4 = w.heap.size ∧ g6 = w.heap.size + 1 ∧ g8 = w.heap.size + 1 + 1 ∧ g9 = w.heap.size + 1 + 1 + 1 ∧ g9 < V.heap.size from ⟨hg_g4, hg_g6, hg_g8, hg_g9, HB_g9.out.1⟩)
 clear hg_g4 hg_g6 hg_g8 hg_g9
 refine (mccheck_any pa va fa la sa pn pc vn vc fn fc ln lc sn sc q cr 6 (by omega) t at_ HTv.out HAt.out o1 o2 o3 y1 y2 y3 V).mono ?_
 rintro e V1 ⟨rfl, he⟩
 have HE_1 := hid (show Ext V V1 from he)
 have h6 := HB_g6.out.of he
 clear he
 have e0 := (h6).2.2 0 _ rfl
 have e1 := (h6).2.2 1 _ rfl
 have e2 := (h6).2.2 2 _ rfl
 have e3 := (h6).2.2 3 _ rfl
 have e4 := (h6).2.2 4 _ rfl
 have e5 := (h6).2.2 5 _ rfl
 have e6 := (h6).2.2 6 _ rfl
 have e7 := (h6).2.2 7 _ rfl
 have ef := (h6).2.1
 have eg := (h6).1
 clear h6
 go_wp2_with fail
 generalize hV_ : World.alloc _ _ = V2
 have HE_V2 := hid (show Ext V1 V2 by rw [← hV_]; exact exP)
 have HB_g12 := hid (show Blk V2 (V1.heap.size) [.int .i64 0, .int .u32 0, .int .u32 0, .bool true] by rw [← hV_]; exact bkP)
 clear hV_
 obtain ⟨g12, hg_g12⟩ : ∃ g, g = V1.heap.size := ⟨_, rfl⟩
 simp only [← hg_g12] at HB_g12 ⊢
 have HN_V2 := hid (show g12 = V1.heap.size ∧ g12 < V2.heap.size from ⟨hg_g12, HB_g12.out.1⟩)
 clear hg_g12
 clear e0 e1 e2 e3 e4 e5 e6 e7 ef eg
 refine (mcchanges_any 6 (by omega) at_ o1 o2 o3 y1 y2 y3 V2).mono ?_
 rintro e V3 ⟨rfl, he⟩
 have HE_3 := hid (((HE_V.out.trans HE_1.out).trans HE_V2.out).trans (show Ext V2 V3 from he))
 have HN := hid (show (w.heap.size ≤ g4 ∧ g4 < g6 ∧ g6 < g8 ∧ g8 < g9 ∧ g9 < g12) ∧ g12 < V3.heap.size by have h1 := HN_V.out; have h2 := HN_V2.out; have h3 := HE_1.out.size; have h4 := (show Ext V2 V3 from he).size; omega)
 have HE_13 := hid ((HE_1.out.trans HE_V2.out).trans (show Ext V2 V3 from he))
 have h4 := HB_g4.out.of HE_13.out
 have h6 := HB_g6.out.of HE_13.out
 have h8 := HB_g8.out.of HE_13.out
 have h9 := HB_g9.out.of HE_13.out
 have h12 := HB_g12.out.of he
 clear HB_g4 HB_g6 HB_g8 HB_g9 HB_g12 HN_V HN_V2 HE_1 HE_V2 HE_V HE_13 he
 have HB_g4 := hid h4
 have HB_g6 := hid h6
 have HB_g8 := hid h8
 have HB_g9 := hid h9
 have HB_g12 := hid h12
 have a0 := (h4).2.2 0 _ rfl
 have a1 := (h4).2.2 1 _ rfl
 have a2 := (h4).2.2 2 _ rfl
 have a3 := (h4).2.2 3 _ rfl
 have a4 := (h4).2.2 4 _ rfl
 have a5 := (h4).2.2 5 _ rfl
 have a6 := (h4).2.2 6 _ rfl
 have af := (h4).2.1
 have ag := (h4).1
 have e0 := (h6).2.2 0 _ rfl
 have e1 := (h6).2.2 1 _ rfl
 have e2 := (h6).2.2 2 _ rfl
 have e3 := (h6).2.2 3 _ rfl
 have e4 := (h6).2.2 4 _ rfl
 have e5 := (h6).2.2 5 _ rfl
 have e6 := (h6).2.2 6 _ rfl
 have e7 := (h6).2.2 7 _ rfl
 have ef := (h6).2.1
 have eg := (h6).1
 clear h4 h6 h8 h9 h12
 go_wp2_with fail
 refine (mcwrite_miss (P := P) (fun b h => Nat.lt_of_lt_of_le (HP.out b h) HE_3.out.size) (H.out.1.of HE_3.out) sa sn sc q cr t ti HT.out f HF.out HVn.out.1 HVn.out.2 at_ l HLl.out x1 x2 x3 x4 g HM.out HI.out o1 o2 o3 y1 y2 y3 HNe.out).mono ?_
 rintro e w2 ⟨va', vc', rfl, he, hm⟩
 have HX := hid he
 have HMe := hid hm
 clear he hm a0 a1 a2 a3 a4 a5 a6 af ag e0 e1 e2 e3 e4 e5 e6 e7 ef eg
 have h4 := HB_g4.out.of HX.out
 have h12 := HB_g12.out.of HX.out
 have a0 := (h4).2.2 0 _ rfl
 have a1 := (h4).2.2 1 _ rfl
 have a2 := (h4).2.2 2 _ rfl
 have a3 := (h4).2.2 3 _ rfl
 have a4 := (h4).2.2 4 _ rfl
 have a5 := (h4).2.2 5 _ rfl
 have a6 := (h4).2.2 6 _ rfl
 have af := (h4).2.1
 have ag := (h4).1
 have c0 := (h12).2.2 0 _ rfl
 have c1 := (h12).2.2 1 _ rfl
 have c2 := (h12).2.2 2 _ rfl
 have c3 := (h12).2.2 3 _ rfl
 have cf := (h12).2.1
 have cg := (h12).1
 clear h4 h12
 have d_g4_g8 : ¬ g4 = g8 := by have hn_ := HN.out; omega
 have d_g4_g9 : ¬ g4 = g9 := by have hn_ := HN.out; omega
 have d_g4_g12 : ¬ g4 = g12 := by have hn_ := HN.out; omega
 have d_g8_g4 : ¬ g8 = g4 := by have hn_ := HN.out; omega
 have d_g8_g9 : ¬ g8 = g9 := by have hn_ := HN.out; omega
 have d_g8_g12 : ¬ g8 = g12 := by have hn_ := HN.out; omega
 have d_g9_g4 : ¬ g9 = g4 := by have hn_ := HN.out; omega
 have d_g9_g8 : ¬ g9 = g8 := by have hn_ := HN.out; omega
 have d_g9_g12 : ¬ g9 = g12 := by have hn_ := HN.out; omega
 have d_g12_g4 : ¬ g12 = g4 := by have hn_ := HN.out; omega
 have d_g12_g8 : ¬ g12 = g8 := by have hn_ := HN.out; omega
 have d_g12_g9 : ¬ g12 = g9 := by have hn_ := HN.out; omega
 go_wp2_with fail
 have hn_ := HN.out
 have h_g4 := (HB_g4.out.of HX.out)
 have h_g12 := (HB_g12.out.of HX.out)
 generalize hV_ : World.setCell _ _ _ = W
 have HG_W := hid (show GrL [g4, g12] w2 W by rw [← hV_]; exact glP)
 have hz_g4 := hid (show Blk W g4 [.slice pa pn pc, .slice va' vn vc', .slice fa fn fc, .slice la ln lc, .map q, .slice sa sn sc, .int .i64 cr] by rw [← hV_]; exact bcP)
 have hz_g12 := hid (show Blk W g12 [.int .i64 x1, .int .u32 x2, .int .u32 x3, .bool false] by rw [← hV_]; exact bcP)
 clear hV_ h_g4 h_g12
 have hz_g8 := hid (Blk.grl (HB_g8.out.of HX.out) HG_W.out (by simp; omega))
 have hz_g9 := hid (Blk.grl (HB_g9.out.of HX.out) HG_W.out (by simp; omega))
 clear HB_g4
 have HB_g4 := hz_g4
 clear hz_g4
 clear HB_g12
 have HB_g12 := hz_g12
 clear hz_g12
 clear HB_g8
 have HB_g8 := hz_g8
 clear hz_g8
 clear HB_g9
 have HB_g9 := hz_g9
 clear hz_g9
 clear hn_
 clear a0 a1 a2 a3 a4 a5 a6 af ag c0 c1 c2 c3 cf cg
 have HE_W := hid ((HE_3.out.trans HX.out).grl HG_W.out (by have := HN.out; simp; omega))
 refine (it_clone m.st (.slice sa sn sc) W (by have := HS.out.2.2; omega) (H.out.2.2.1.of itvE_len HE_W.out)).mono ?_
 rintro e w3 ⟨v', rfl, he, hv⟩
 have HX3 := hid (show Ext W w3 from he)
 have hop := Own.openT hv (by have := HSl.out; omega)
 rw [← HSl.out.1] at hop
 obtain ⟨gl, sc', rfl, hb1, hb2⟩ := hop
 have HO := hid hv
 have HGl := hid (And.intro hb1 hb2)
 obtain ⟨hx_, b', o', he', hb, hc⟩ := (Sl.of_own itvE_len hv).at HS.out.1
 obtain ⟨rfl, rfl⟩ : gl = b' ∧ 0 = o' := by simpa using he'
 have k0 := hc 0 (by omega)
 have kf : ∀ i, w3.frozen? ⟨gl, i, none⟩ = false := by
  obtain ⟨_, cs, h⟩ := own_typed hv rfl
  exact (blk_heap h).2.1
 have kg := hb
 simp [itvE] at k0
 have h4 := HB_g4.out.of HX3.out
 have hgw := HB_g12.out.1
 have hgw2 := HB_g9.out.1
 have hn := HN.out
 have d_gl_g4 : ¬ gl = g4 := by omega
 have d_g4_gl : ¬ g4 = gl := by omega
 have d_gl_g8 : ¬ gl = g8 := by omega
 have d_gl_g9 : ¬ gl = g9 := by omega
 have d_gl_g12 : ¬ gl = g12 := by omega
 have HNl := hid (show (w.heap.size ≤ g4 ∧ g4 < g6 ∧ g6 < g8 ∧ g8 < g9 ∧ g9 < g12) ∧ g12 < gl ∧ g12 < V3.heap.size ∧ w2.heap.size ≤ gl by have := HG_W.out.size; omega)
 clear he hv hb1 hb2 hc he' hb hgw hgw2 hn hx_
 have a0 := (h4).2.2 0 _ rfl
 have a1 := (h4).2.2 1 _ rfl
 have a2 := (h4).2.2 2 _ rfl
 have a3 := (h4).2.2 3 _ rfl
 have a4 := (h4).2.2 4 _ rfl
 have a5 := (h4).2.2 5 _ rfl
 have a6 := (h4).2.2 6 _ rfl
 have af := (h4).2.1
 have ag := (h4).1
 clear h4
 have hw1 := HW1.out
 have hw2 := HW2.out
 have hts := HTs.out
 go_upto_region 15 with fail
 have hn_ := HNl.out
 have h_g4 := (HB_g4.out.of HX3.out)
 generalize hV_ : World.setCell _ _ _ = Y
 have HG_Y := hid (show GrL [g4, gl] w3 Y by rw [← hV_]; exact glP)
 have hz_g4 := hid (show Blk Y g4 [.slice pa pn pc, .slice va' vn vc', .slice fa fn fc, .slice la ln lc, .map q, .slice (some ⟨gl, 0, none⟩) sn sc', .int .i64 cr] by rw [← hV_]; exact bcP)
 have HOY := hid (show Own Y W.heap.size 3 1 itvE (.slice (some ⟨gl, 0, none⟩) sn sc') (m.st.set ti (s + 1)) by rw [← hV_]; exact Own.set itvE_len (HO.out.under (by have := HB_g4.out.1; omega) _) HS.out.1 (s + 1) (j := 0) (by omega) _ rfl (by omega))
 clear hV_ h_g4
 have hz_g8 := hid (Blk.grl (HB_g8.out.of HX3.out) HG_Y.out (by simp; omega))
 have hz_g9 := hid (Blk.grl (HB_g9.out.of HX3.out) HG_Y.out (by simp; omega))
 have hz_g12 := hid (Blk.grl (HB_g12.out.of HX3.out) HG_Y.out (by simp; omega))
 clear HB_g4
 have HB_g4 := hz_g4
 clear hz_g4
 clear HB_g8
 have HB_g8 := hz_g8
 clear hz_g8
 clear HB_g9
 have HB_g9 := hz_g9
 clear hz_g9
 clear HB_g12
 have HB_g12 := hz_g12
 clear hz_g12
 clear hn_
 clear a0 a1 a2 a3 a4 a5 a6 af ag k0 kf kg hw1 hw2 hts
 have b0 := (HB_g8.out).2.2 0 _ rfl
 have b1 := (HB_g8.out).2.2 1 _ rfl
 have b2 := (HB_g8.out).2.2 2 _ rfl
 have b3 := (HB_g8.out).2.2 3 _ rfl
 have b4 := (HB_g8.out).2.2 4 _ rfl
 have b5 := (HB_g8.out).2.2 5 _ rfl
 have b6 := (HB_g8.out).2.2 6 _ rfl
 have bf := (HB_g8.out).2.1
 have bg := (HB_g8.out).1
 have d0 := (HB_g9.out).2.2 0 _ rfl
 have d1 := (HB_g9.out).2.2 1 _ rfl
 have d2 := (HB_g9.out).2.2 2 _ rfl
 have d3 := (HB_g9.out).2.2 3 _ rfl
 have df := (HB_g9.out).2.1
 have dg := (HB_g9.out).1
 have HSt_ := hid (show ∀ w', GrL [g8, g9] Y w' → (fun w' => (w'.cell? ⟨g4, 0, none⟩ = some (.slice pa pn pc) ∧ w'.cell? ⟨g4, 1, none⟩ = some (.slice va' vn vc') ∧ w'.cell? ⟨g4, 2, none⟩ = some (.slice fa fn fc) ∧ w'.cell? ⟨g4, 3, none⟩ = some (.slice la ln lc) ∧ w'.cell? ⟨g4, 4, none⟩ = some (.map q) ∧ w'.cell? ⟨g4, 5, none⟩ = some (.slice (some ⟨gl, 0, none⟩) sn sc') ∧ w'.cell? ⟨g4, 6, none⟩ = some (.int .i64 cr) ∧ g4 < w'.heap.size) ∧ (w'.cell? ⟨g12, 0, none⟩ = some (.int .i64 x1) ∧ w'.cell? ⟨g12, 1, none⟩ = some (.int .u32 x2) ∧ w'.cell? ⟨g12, 2, none⟩ = some (.int .u32 x3) ∧ w'.cell? ⟨g12, 3, none⟩ = some (.bool false) ∧ g12 < w'.heap.size)) w' from fun w' G_ => by have h0_ := Blk.grl HB_g4.out G_ (by have := HNl.out; simp; omega); have h1_ := Blk.grl HB_g12.out G_ (by have := HNl.out; simp; omega); exact ⟨⟨h0_.2.2 0 _ rfl, h0_.2.2 1 _ rfl, h0_.2.2 2 _ rfl, h0_.2.2 3 _ rfl, h0_.2.2 4 _ rfl, h0_.2.2 5 _ rfl, h0_.2.2 6 _ rfl, h0_.1⟩, ⟨h1_.2.2 0 _ rfl, h1_.2.2 1 _ rfl, h1_.2.2 2 _ rfl, h1_.2.2 3 _ rfl, h1_.1⟩⟩)
 refine wp_region_held_drew (S := fun w' => (w'.cell? ⟨g4, 0, none⟩ = some (.slice pa pn pc) ∧ w'.cell? ⟨g4, 1, none⟩ = some (.slice va' vn vc') ∧ w'.cell? ⟨g4, 2, none⟩ = some (.slice fa fn fc) ∧ w'.cell? ⟨g4, 3, none⟩ = some (.slice la ln lc) ∧ w'.cell? ⟨g4, 4, none⟩ = some (.map q) ∧ w'.cell? ⟨g4, 5, none⟩ = some (.slice (some ⟨gl, 0, none⟩) sn sc') ∧ w'.cell? ⟨g4, 6, none⟩ = some (.int .i64 cr) ∧ g4 < w'.heap.size) ∧ (w'.cell? ⟨g12, 0, none⟩ = some (.int .i64 x1) ∧ w'.cell? ⟨g12, 1, none⟩ = some (.int .u32 x2) ∧ w'.cell? ⟨g12, 2, none⟩ = some (.int .u32 x3) ∧ w'.cell? ⟨g12, 3, none⟩ = some (.bool false) ∧ g12 < w'.heap.size)) (by kernel_rfl) (by exact HSt_.out _ (by exact glP)) (fun hHeld => ?_)
 refine tkm 0 (v := ?_) rfl ?_ ?_
 rotate_left 1
 ·intro w hSw
  try dsimp only at hSw
  go_simp
  try with_reducible rfl
 (try simp only [Act.put, pA, pB, pC])
 refine tkm 1 (v := ?_) rfl ?_ ?_
 rotate_left 1
 ·intro w hSw
  try dsimp only at hSw
  go_simp
  try with_reducible rfl
 (try simp only [Act.put, pA, pB, pC])
 refine take_only 2 (oi := ⟨_, _, _, _, _, _⟩) (by kernel_rfl) rfl (fun K hK => ?_)
 go_simp
 have hOld := hHeld
 clear hHeld
 refine hK.out _ _ (by exact HSt_.out _ (by exact glP)) (fun hHeld => ?_)
 clear hOld hK K
 (try simp only [Act.put, pA, pB, pC])
 refine take_only 3 (oi := ⟨_, _, _, _, _, _⟩) (by kernel_rfl) rfl (fun K hK => ?_)
 go_simp
 have hOld := hHeld
 clear hHeld
 refine hK.out _ _ (by exact HSt_.out _ (by exact glP)) (fun hHeld => ?_)
 clear hOld hK K
 (try simp only [Act.put, pA, pB, pC])
 refine tkm 4 (v := ?_) rfl ?_ ?_
 rotate_left 1
 ·intro w hSw
  try dsimp only at hSw
  go_simp
  try with_reducible rfl
 (try simp only [Act.put, pA, pB, pC])
 refine wpAnyH_done (by kernel_rfl) ?_ _
 clear hHeld
 (repeat (first | go_values | go_skip | go_guarded | go_step | go_upon | (simp only [Int.not_lt, Int.not_le] at *; go_simp) | (go_ite <;> go_prune <;> (try go_simp))))
 refine bodyPost_ret (v := .tuple #[.agg #[.slice pa pn pc, .slice va' vn vc', .slice fa fn fc, .slice la ln lc, .map q, .slice (some ⟨gl, 0, none⟩) sn sc', .int .i64 cr], .agg #[.int .i64 x1, .int .u32 x2, .int .u32 x3, .bool false], .int .i64 0]) (by simp [results, Tryz.results100, go_sem, b0, b1, b2, b3, b4, b5, b6, bf, bg, d0, d1, d2, d3, df, dg, d_g8_g9, d_g9_g8]) rfl ⟨va', vc', _, sc', rfl, ?_⟩
 generalize hZ_ : World.drew _ = Z
 have hgz : GrL [g8, g9] Y Z := by rw [← hZ_]; exact glP
 clear hZ_
 have hz1 : GrL [g4, g12, gl, g8, g9] w2 Z := ((HG_W.out.wide (by simp)).trans ((GrL.of_ext HX3.out).trans (HG_Y.out.wide (by simp)))).trans (hgz.wide (by simp))
 refine ⟨(HE_3.out.trans HX.out).grl hz1 (by have := HNl.out; simp; omega), ?_, ?_, ?_⟩
 ·exact (me_end HP.out HE_3.out HX.out (by have := HNl.out; simp; omega) HMe.out hz1).2.imp (fun _ h => h.imp id (fun h => h.wide (by simp)))
 ·exact (H.out.2.1.of ((HE_3.out.trans HX.out).grl hz1 (by have := HNl.out; simp; omega))).imp (fun _ h => .inl h)
 ·have ho := HOY.out.grl hgz (by have := HNl.out; have := HGl.out; simp [Value.ownBlock]; omega)
  exact (Sp.ownN (w0 := w) (D := mcD) itvE_len ho HE_W.out.size (by simp)).imp (fun b h => .inr h.2)
set_option maxRecDepth 100000 in
set_option maxHeartbeats 1000000 in
theorem mcdo_hit {w : World} {P : Nat → Prop} (hP : ∀ b, P b → b < w.heap.size) {pa va fa la sa : Option Addr} {pn pc vn vc fn fc ln lc sn sc : Nat} {m : Mc} (h : McR w P (.slice pa pn pc) (.slice va vn vc) (.slice fa fn fc) (.slice la ln lc) (.slice sa sn sc) m) (q : Option Nat) (cr : Int) (t ti : Nat) (ht : t = ti + 1) (f : Int → Nat) (hf : m.me.vs[ti]? = some f) (hvn : vn ≤ 1000) (hpn : pn ≤ 4096) (htv : t ≤ vn) (s : Int) (hs : m.st[ti]? = some s) (hs0 : 0 ≤ s ∧ s ≤ 1000000) (hsn : m.st.length ≤ 1000)
 (at_ : Nat) (hap : at_ < pn) (l : List Mg) (hl : m.me.pl[at_]? = some l) (x1 x2 x3 x4 : Int) (g : Int → Nat) (hm : l[l.length - 1]? = some ⟨(x1, x2, x3), x4, g⟩) (hi : l.length ≤ 900000) (y1 y2 y3 ch : Int) (hfn : at_ < fn) (hfm : fn ≤ 4096) (n : Nat) (hn : n = at_ / 8) (ll : List (Int × Wd) × Nat) (hll : m.ln.logs[n]? = some ll) (hlm : ll.1.length ≤ 900000) (hlo : m.ln.logs.length ≤ 1000) :
 Calls Tryz.prog 100 #[.agg #[.slice pa pn pc, .slice va vn vc, .slice fa fn fc, .slice la ln lc, .map q, .slice sa sn sc, .int .i64 cr], .int .i64 t, .agg #[.int .i64 6, .int .i64 at_, .int .i64 x1, .int .u32 x2, .int .u32 x3, .int .i64 y1, .int .u32 y2, .int .u32 y3], .int .i64 ch] w fun e w' => ∃ pa' pc' va' vc' la' lc' sa' sc', e = .returned (.tuple #[.agg #[.slice pa' pn pc', .slice va' vn vc', .slice fa fn fc, .slice la' ln lc', .map q, .slice sa' sn sc', .int .i64 cr], .agg #[.int .i64 x1, .int .u32 x2, .int .u32 x3, .bool true], .int .i64 0]) ∧ (Ext w w' ∧ McR w' (fun b => P b ∨ NewB mcD w w' b) (.slice pa' pn pc') (.slice va' vn vc') (.slice fa fn fc) (.slice la' ln lc') (.slice sa' sn sc') ⟨meSwaps m.me ti at_ f g l (y1, y2, y3) t, lnStores m.ln n ll at_ (y1, y2, y3), m.st.set ti (s + 1)⟩) := by
 have H := hid h
 have HP := hid hP
 have HF := hid hf
 have HM := hid hm
 have HT := hid ht
 have HI := hid hi
 have HVn := hid (And.intro hvn hpn)
 have HLl := hid hl
 have HS := hid (And.intro hs (And.intro hs0 hsn))
 have HTv := hid (show 1 ≤ (t : Int) ∧ (t : Int) ≤ (vn : Int) by omega)
 have HAt := hid (show 0 ≤ (at_ : Int) ∧ (at_ : Int) < (pn : Int) by omega)
 have hsl : sn = m.st.length := by obtain ⟨a', c', hv, _⟩ := h.2.2.1; simp only [Value.slice.injEq] at hv; exact hv.2.1
 have htl : ti < m.st.length := (List.getElem?_eq_some_iff.1 hs).1
 have HSl := hid (And.intro hsl htl)
 have HW1 := hid (show wrap64 ((t : Int) - 1) = (ti : Int) by rw [show (t : Int) - 1 = (ti : Int) by omega]; exact IntWalk.wrap64_in _ (by omega))
 have HW2 := hid (show wrap64 (s + 1) = s + 1 from IntWalk.wrap64_in _ (by omega))
 have HTs := hid (show (ti : Int) < (sn : Int) by omega)
 clear h hP hf hm ht hi hvn hpn hl hs hs0 hsn htv hap hsl htl
 have HLo := hid (And.intro (And.intro hfn hfm) (And.intro (And.intro hn hll) (And.intro hlm hlo)))
 clear hfn hfm hn hll hlm hlo
 go_enter Tryz.func100, Tryz.ntmps100
 go_wp2_with fail
 generalize hV_ : World.alloc _ _ = V
 have HE_V := hid (show Ext w V by rw [← hV_]; exact exP)
 have HB_g4 := hid (show Blk V (w.heap.size) [.slice pa pn pc, .slice va vn vc, .slice fa fn fc, .slice la ln lc, .map q, .slice sa sn sc, .int .i64 cr] by rw [← hV_]; exact bkP)
 have HB_g6 := hid (show Blk V (w.heap.size + 1) [.int .i64 6, .int .i64 at_, .int .i64 x1, .int .u32 x2, .int .u32 x3, .int .i64 y1, .int .u32 y2, .int .u32 y3] by rw [← hV_]; exact bkP)
 have HB_g8 := hid (show Blk V (w.heap.size + 1 + 1) [.slice none 0 0, .slice none 0 0, .slice none 0 0, .slice none 0 0, .map none, .slice none 0 0, .int .i64 0] by rw [← hV_]; exact bkP)
 have HB_g9 := hid (show Blk V (w.heap.size + 1 + 1 + 1) [.int .i64 0, .int .u32 0, .int .u32 0, .bool false] by rw [← hV_]; exact bkP)
 clear hV_
 obtain ⟨g9, hg_g9⟩ : ∃ g, g = w.heap.size + 1 + 1 + 1 := ⟨_, rfl⟩
 simp only [← hg_g9] at HB_g9 ⊢
 obtain ⟨g8, hg_g8⟩ : ∃ g, g = w.heap.size + 1 + 1 := ⟨_, rfl⟩
 simp only [← hg_g8] at HB_g8 ⊢
 obtain ⟨g6, hg_g6⟩ : ∃ g, g = w.heap.size + 1 := ⟨_, rfl⟩
 simp only [← hg_g6] at HB_g6 ⊢
 obtain ⟨g4, hg_g4⟩ : ∃ g, g = w.heap.size := ⟨_, rfl⟩
 simp only [← hg_g4] at HB_g4 ⊢
 have HN_V := hid (show g4 = w.heap.size ∧ g6 = w.heap.size + 1 ∧ g8 = w.heap.size + 1 + 1 ∧ g9 = w.heap.size + 1 + 1 + 1 ∧ g9 < V.heap.size from ⟨hg_g4, hg_g6, hg_g8, hg_g9, HB_g9.out.1⟩)
 clear hg_g4 hg_g6 hg_g8 hg_g9
 refine (mccheck_any pa va fa la sa pn pc vn vc fn fc ln lc sn sc q cr 6 (by omega) t at_ HTv.out HAt.out x1 x2 x3 y1 y2 y3 V).mono ?_
 rintro e V1 ⟨rfl, he⟩
 have HE_1 := hid (show Ext V V1 from he)
 have h6 := HB_g6.out.of he
 clear he
 have e0 := (h6).2.2 0 _ rfl
 have e1 := (h6).2.2 1 _ rfl
 have e2 := (h6).2.2 2 _ rfl
 have e3 := (h6).2.2 3 _ rfl
 have e4 := (h6).2.2 4 _ rfl
 have e5 := (h6).2.2 5 _ rfl
 have e6 := (h6).2.2 6 _ rfl
 have e7 := (h6).2.2 7 _ rfl
 have ef := (h6).2.1
 have eg := (h6).1
 clear h6
 go_wp2_with fail
 generalize hV_ : World.alloc _ _ = V2
 have HE_V2 := hid (show Ext V1 V2 by rw [← hV_]; exact exP)
 have HB_g12 := hid (show Blk V2 (V1.heap.size) [.int .i64 0, .int .u32 0, .int .u32 0, .bool true] by rw [← hV_]; exact bkP)
 clear hV_
 obtain ⟨g12, hg_g12⟩ : ∃ g, g = V1.heap.size := ⟨_, rfl⟩
 simp only [← hg_g12] at HB_g12 ⊢
 have HN_V2 := hid (show g12 = V1.heap.size ∧ g12 < V2.heap.size from ⟨hg_g12, HB_g12.out.1⟩)
 clear hg_g12
 clear e0 e1 e2 e3 e4 e5 e6 e7 ef eg
 refine (mcchanges_any 6 (by omega) at_ x1 x2 x3 y1 y2 y3 V2).mono ?_
 rintro e V3 ⟨rfl, he⟩
 have HE_3 := hid (((HE_V.out.trans HE_1.out).trans HE_V2.out).trans (show Ext V2 V3 from he))
 have HN := hid (show (w.heap.size ≤ g4 ∧ g4 < g6 ∧ g6 < g8 ∧ g8 < g9 ∧ g9 < g12) ∧ g12 < V3.heap.size by have h1 := HN_V.out; have h2 := HN_V2.out; have h3 := HE_1.out.size; have h4 := (show Ext V2 V3 from he).size; omega)
 have HE_13 := hid ((HE_1.out.trans HE_V2.out).trans (show Ext V2 V3 from he))
 have h4 := HB_g4.out.of HE_13.out
 have h6 := HB_g6.out.of HE_13.out
 have h8 := HB_g8.out.of HE_13.out
 have h9 := HB_g9.out.of HE_13.out
 have h12 := HB_g12.out.of he
 clear HB_g4 HB_g6 HB_g8 HB_g9 HB_g12 HN_V HN_V2 HE_1 HE_V2 HE_V HE_13 he
 have HB_g4 := hid h4
 have HB_g6 := hid h6
 have HB_g8 := hid h8
 have HB_g9 := hid h9
 have HB_g12 := hid h12
 have a0 := (h4).2.2 0 _ rfl
 have a1 := (h4).2.2 1 _ rfl
 have a2 := (h4).2.2 2 _ rfl
 have a3 := (h4).2.2 3 _ rfl
 have a4 := (h4).2.2 4 _ rfl
 have a5 := (h4).2.2 5 _ rfl
 have a6 := (h4).2.2 6 _ rfl
 have af := (h4).2.1
 have ag := (h4).1
 have e0 := (h6).2.2 0 _ rfl
 have e1 := (h6).2.2 1 _ rfl
 have e2 := (h6).2.2 2 _ rfl
 have e3 := (h6).2.2 3 _ rfl
 have e4 := (h6).2.2 4 _ rfl
 have e5 := (h6).2.2 5 _ rfl
 have e6 := (h6).2.2 6 _ rfl
 have e7 := (h6).2.2 7 _ rfl
 have ef := (h6).2.1
 have eg := (h6).1
 clear h4 h6 h8 h9 h12
 go_wp2_with fail
 refine (mcwrite_hit (P := P) (fun b h => Nat.lt_of_lt_of_le (HP.out b h) HE_3.out.size) (H.out.1.of HE_3.out) (H.out.2.1.of HE_3.out) sa sn sc q cr t ti HT.out f HF.out HVn.out.1 HVn.out.2 at_ l HLl.out x1 x2 x3 x4 g HM.out HI.out y1 y2 y3 HLo.out.1.1 HLo.out.1.2 n HLo.out.2.1.1 ll HLo.out.2.1.2 HLo.out.2.2.1 HLo.out.2.2.2).mono ?_
 rintro e w2 ⟨pa', pc', va', vc', la', lc', rfl, ⟨he, hm⟩, _, hl⟩
 have HX := hid he
 have HMe := hid hm
 have HLn := hid hl
 clear hl
 clear he hm a0 a1 a2 a3 a4 a5 a6 af ag e0 e1 e2 e3 e4 e5 e6 e7 ef eg
 have h4 := HB_g4.out.of HX.out
 have h12 := HB_g12.out.of HX.out
 have a0 := (h4).2.2 0 _ rfl
 have a1 := (h4).2.2 1 _ rfl
 have a2 := (h4).2.2 2 _ rfl
 have a3 := (h4).2.2 3 _ rfl
 have a4 := (h4).2.2 4 _ rfl
 have a5 := (h4).2.2 5 _ rfl
 have a6 := (h4).2.2 6 _ rfl
 have af := (h4).2.1
 have ag := (h4).1
 have c0 := (h12).2.2 0 _ rfl
 have c1 := (h12).2.2 1 _ rfl
 have c2 := (h12).2.2 2 _ rfl
 have c3 := (h12).2.2 3 _ rfl
 have cf := (h12).2.1
 have cg := (h12).1
 clear h4 h12
 have d_g4_g8 : ¬ g4 = g8 := by have hn_ := HN.out; omega
 have d_g4_g9 : ¬ g4 = g9 := by have hn_ := HN.out; omega
 have d_g4_g12 : ¬ g4 = g12 := by have hn_ := HN.out; omega
 have d_g8_g4 : ¬ g8 = g4 := by have hn_ := HN.out; omega
 have d_g8_g9 : ¬ g8 = g9 := by have hn_ := HN.out; omega
 have d_g8_g12 : ¬ g8 = g12 := by have hn_ := HN.out; omega
 have d_g9_g4 : ¬ g9 = g4 := by have hn_ := HN.out; omega
 have d_g9_g8 : ¬ g9 = g8 := by have hn_ := HN.out; omega
 have d_g9_g12 : ¬ g9 = g12 := by have hn_ := HN.out; omega
 have d_g12_g4 : ¬ g12 = g4 := by have hn_ := HN.out; omega
 have d_g12_g8 : ¬ g12 = g8 := by have hn_ := HN.out; omega
 have d_g12_g9 : ¬ g12 = g9 := by have hn_ := HN.out; omega
 go_wp2_with fail
 have hn_ := HN.out
 have h_g4 := (HB_g4.out.of HX.out)
 have h_g12 := (HB_g12.out.of HX.out)
 generalize hV_ : World.setCell _ _ _ = W
 have HG_W := hid (show GrL [g4, g12] w2 W by rw [← hV_]; exact glP)
 have hz_g4 := hid (show Blk W g4 [.slice pa' pn pc', .slice va' vn vc', .slice fa fn fc, .slice la' ln lc', .map q, .slice sa sn sc, .int .i64 cr] by rw [← hV_]; exact bcP)
 have hz_g12 := hid (show Blk W g12 [.int .i64 x1, .int .u32 x2, .int .u32 x3, .bool true] by rw [← hV_]; exact bcP)
 clear hV_ h_g4 h_g12
 have hz_g8 := hid (Blk.grl (HB_g8.out.of HX.out) HG_W.out (by simp; omega))
 have hz_g9 := hid (Blk.grl (HB_g9.out.of HX.out) HG_W.out (by simp; omega))
 clear HB_g4
 have HB_g4 := hz_g4
 clear hz_g4
 clear HB_g12
 have HB_g12 := hz_g12
 clear hz_g12
 clear HB_g8
 have HB_g8 := hz_g8
 clear hz_g8
 clear HB_g9
 have HB_g9 := hz_g9
 clear hz_g9
 clear hn_
 clear a0 a1 a2 a3 a4 a5 a6 af ag c0 c1 c2 c3 cf cg
 have HE_W := hid ((HE_3.out.trans HX.out).grl HG_W.out (by have := HN.out; simp; omega))
 refine (it_clone m.st (.slice sa sn sc) W (by have := HS.out.2.2; omega) (H.out.2.2.1.of itvE_len HE_W.out)).mono ?_
 rintro e w3 ⟨v', rfl, he, hv⟩
 have HX3 := hid (show Ext W w3 from he)
 have hop := Own.openT hv (by have := HSl.out; omega)
 rw [← HSl.out.1] at hop
 obtain ⟨gl, sc', rfl, hb1, hb2⟩ := hop
 have HO := hid hv
 have HGl := hid (And.intro hb1 hb2)
 obtain ⟨hx_, b', o', he', hb, hc⟩ := (Sl.of_own itvE_len hv).at HS.out.1
 obtain ⟨rfl, rfl⟩ : gl = b' ∧ 0 = o' := by simpa using he'
 have k0 := hc 0 (by omega)
 have kf : ∀ i, w3.frozen? ⟨gl, i, none⟩ = false := by
  obtain ⟨_, cs, h⟩ := own_typed hv rfl
  exact (blk_heap h).2.1
 have kg := hb
 simp [itvE] at k0
 have h4 := HB_g4.out.of HX3.out
 have hgw := HB_g12.out.1
 have hgw2 := HB_g9.out.1
 have hn := HN.out
 have d_gl_g4 : ¬ gl = g4 := by omega
 have d_g4_gl : ¬ g4 = gl := by omega
 have d_gl_g8 : ¬ gl = g8 := by omega
 have d_gl_g9 : ¬ gl = g9 := by omega
 have d_gl_g12 : ¬ gl = g12 := by omega
 have HNl := hid (show (w.heap.size ≤ g4 ∧ g4 < g6 ∧ g6 < g8 ∧ g8 < g9 ∧ g9 < g12) ∧ g12 < gl ∧ g12 < V3.heap.size ∧ w2.heap.size ≤ gl by have := HG_W.out.size; omega)
 clear he hv hb1 hb2 hc he' hb hgw hgw2 hn hx_
 have a0 := (h4).2.2 0 _ rfl
 have a1 := (h4).2.2 1 _ rfl
 have a2 := (h4).2.2 2 _ rfl
 have a3 := (h4).2.2 3 _ rfl
 have a4 := (h4).2.2 4 _ rfl
 have a5 := (h4).2.2 5 _ rfl
 have a6 := (h4).2.2 6 _ rfl
 have af := (h4).2.1
 have ag := (h4).1
 clear h4
 have hw1 := HW1.out
 have hw2 := HW2.out
 have hts := HTs.out
 go_upto_region 15 with fail
 have hn_ := HNl.out
 have h_g4 := (HB_g4.out.of HX3.out)
 generalize hV_ : World.setCell _ _ _ = Y
 have HG_Y := hid (show GrL [g4, gl] w3 Y by rw [← hV_]; exact glP)
 have hz_g4 := hid (show Blk Y g4 [.slice pa' pn pc', .slice va' vn vc', .slice fa fn fc, .slice la' ln lc', .map q, .slice (some ⟨gl, 0, none⟩) sn sc', .int .i64 cr] by rw [← hV_]; exact bcP)
 have HOY := hid (show Own Y W.heap.size 3 1 itvE (.slice (some ⟨gl, 0, none⟩) sn sc') (m.st.set ti (s + 1)) by rw [← hV_]; exact Own.set itvE_len (HO.out.under (by have := HB_g4.out.1; omega) _) HS.out.1 (s + 1) (j := 0) (by omega) _ rfl (by omega))
 clear hV_ h_g4
 have hz_g8 := hid (Blk.grl (HB_g8.out.of HX3.out) HG_Y.out (by simp; omega))
 have hz_g9 := hid (Blk.grl (HB_g9.out.of HX3.out) HG_Y.out (by simp; omega))
 have hz_g12 := hid (Blk.grl (HB_g12.out.of HX3.out) HG_Y.out (by simp; omega))
 clear HB_g4
 have HB_g4 := hz_g4
 clear hz_g4
 clear HB_g8
 have HB_g8 := hz_g8
 clear hz_g8
 clear HB_g9
 have HB_g9 := hz_g9
 clear hz_g9
 clear HB_g12
 have HB_g12 := hz_g12
 clear hz_g12
 clear hn_
 clear a0 a1 a2 a3 a4 a5 a6 af ag k0 kf kg hw1 hw2 hts
 have b0 := (HB_g8.out).2.2 0 _ rfl
 have b1 := (HB_g8.out).2.2 1 _ rfl
 have b2 := (HB_g8.out).2.2 2 _ rfl
 have b3 := (HB_g8.out).2.2 3 _ rfl
 have b4 := (HB_g8.out).2.2 4 _ rfl
 have b5 := (HB_g8.out).2.2 5 _ rfl
 have b6 := (HB_g8.out).2.2 6 _ rfl
 have bf := (HB_g8.out).2.1
 have bg := (HB_g8.out).1
 have d0 := (HB_g9.out).2.2 0 _ rfl
 have d1 := (HB_g9.out).2.2 1 _ rfl
 have d2 := (HB_g9.out).2.2 2 _ rfl
 have d3 := (HB_g9.out).2.2 3 _ rfl
 have df := (HB_g9.out).2.1
 have dg := (HB_g9.out).1
 have HSt_ := hid (show ∀ w', GrL [g8, g9] Y w' → (fun w' => (w'.cell? ⟨g4, 0, none⟩ = some (.slice pa' pn pc') ∧ w'.cell? ⟨g4, 1, none⟩ = some (.slice va' vn vc') ∧ w'.cell? ⟨g4, 2, none⟩ = some (.slice fa fn fc) ∧ w'.cell? ⟨g4, 3, none⟩ = some (.slice la' ln lc') ∧ w'.cell? ⟨g4, 4, none⟩ = some (.map q) ∧ w'.cell? ⟨g4, 5, none⟩ = some (.slice (some ⟨gl, 0, none⟩) sn sc') ∧ w'.cell? ⟨g4, 6, none⟩ = some (.int .i64 cr) ∧ g4 < w'.heap.size) ∧ (w'.cell? ⟨g12, 0, none⟩ = some (.int .i64 x1) ∧ w'.cell? ⟨g12, 1, none⟩ = some (.int .u32 x2) ∧ w'.cell? ⟨g12, 2, none⟩ = some (.int .u32 x3) ∧ w'.cell? ⟨g12, 3, none⟩ = some (.bool true) ∧ g12 < w'.heap.size)) w' from fun w' G_ => by have h0_ := Blk.grl HB_g4.out G_ (by have := HNl.out; simp; omega); have h1_ := Blk.grl HB_g12.out G_ (by have := HNl.out; simp; omega); exact ⟨⟨h0_.2.2 0 _ rfl, h0_.2.2 1 _ rfl, h0_.2.2 2 _ rfl, h0_.2.2 3 _ rfl, h0_.2.2 4 _ rfl, h0_.2.2 5 _ rfl, h0_.2.2 6 _ rfl, h0_.1⟩, ⟨h1_.2.2 0 _ rfl, h1_.2.2 1 _ rfl, h1_.2.2 2 _ rfl, h1_.2.2 3 _ rfl, h1_.1⟩⟩)
 refine wp_region_held_drew (S := fun w' => (w'.cell? ⟨g4, 0, none⟩ = some (.slice pa' pn pc') ∧ w'.cell? ⟨g4, 1, none⟩ = some (.slice va' vn vc') ∧ w'.cell? ⟨g4, 2, none⟩ = some (.slice fa fn fc) ∧ w'.cell? ⟨g4, 3, none⟩ = some (.slice la' ln lc') ∧ w'.cell? ⟨g4, 4, none⟩ = some (.map q) ∧ w'.cell? ⟨g4, 5, none⟩ = some (.slice (some ⟨gl, 0, none⟩) sn sc') ∧ w'.cell? ⟨g4, 6, none⟩ = some (.int .i64 cr) ∧ g4 < w'.heap.size) ∧ (w'.cell? ⟨g12, 0, none⟩ = some (.int .i64 x1) ∧ w'.cell? ⟨g12, 1, none⟩ = some (.int .u32 x2) ∧ w'.cell? ⟨g12, 2, none⟩ = some (.int .u32 x3) ∧ w'.cell? ⟨g12, 3, none⟩ = some (.bool true) ∧ g12 < w'.heap.size)) (by kernel_rfl) (by exact HSt_.out _ (by exact glP)) (fun hHeld => ?_)
 refine tkm 0 (v := ?_) rfl ?_ ?_
 rotate_left 1
 ·intro w hSw
  try dsimp only at hSw
  go_simp
  try with_reducible rfl
 (try simp only [Act.put, pA, pB, pC])
 refine tkm 1 (v := ?_) rfl ?_ ?_
 rotate_left 1
 ·intro w hSw
  try dsimp only at hSw
  go_simp
  try with_reducible rfl
 (try simp only [Act.put, pA, pB, pC])
 refine take_only 2 (oi := ⟨_, _, _, _, _, _⟩) (by kernel_rfl) rfl (fun K hK => ?_)
 go_simp
 have hOld := hHeld
 clear hHeld
 refine hK.out _ _ (by exact HSt_.out _ (by exact glP)) (fun hHeld => ?_)
 clear hOld hK K
 (try simp only [Act.put, pA, pB, pC])
 refine take_only 3 (oi := ⟨_, _, _, _, _, _⟩) (by kernel_rfl) rfl (fun K hK => ?_)
 go_simp
 have hOld := hHeld
 clear hHeld
 refine hK.out _ _ (by exact HSt_.out _ (by exact glP)) (fun hHeld => ?_)
 clear hOld hK K
 (try simp only [Act.put, pA, pB, pC])
 refine tkm 4 (v := ?_) rfl ?_ ?_
 rotate_left 1
 ·intro w hSw
  try dsimp only at hSw
  go_simp
  try with_reducible rfl
 (try simp only [Act.put, pA, pB, pC])
 refine wpAnyH_done (by kernel_rfl) ?_ _
 clear hHeld
 (repeat (first | go_values | go_skip | go_guarded | go_step | go_upon | (simp only [Int.not_lt, Int.not_le] at *; go_simp) | (go_ite <;> go_prune <;> (try go_simp))))
 refine bodyPost_ret (v := .tuple #[.agg #[.slice pa' pn pc', .slice va' vn vc', .slice fa fn fc, .slice la' ln lc', .map q, .slice (some ⟨gl, 0, none⟩) sn sc', .int .i64 cr], .agg #[.int .i64 x1, .int .u32 x2, .int .u32 x3, .bool true], .int .i64 0]) (by simp [results, Tryz.results100, go_sem, b0, b1, b2, b3, b4, b5, b6, bf, bg, d0, d1, d2, d3, df, dg, d_g8_g9, d_g9_g8]) rfl ⟨pa', pc', va', vc', la', lc', _, sc', rfl, ?_⟩
 generalize hZ_ : World.drew _ = Z
 have hgz : GrL [g8, g9] Y Z := by rw [← hZ_]; exact glP
 clear hZ_
 have hz1 : GrL [g4, g12, gl, g8, g9] w2 Z := ((HG_W.out.wide (by simp)).trans ((GrL.of_ext HX3.out).trans (HG_Y.out.wide (by simp)))).trans (hgz.wide (by simp))
 refine ⟨(HE_3.out.trans HX.out).grl hz1 (by have := HNl.out; simp; omega), ?_, ?_, ?_⟩
 ·exact (me_end HP.out HE_3.out HX.out (by have := HNl.out; simp; omega) HMe.out hz1).2.imp (fun _ h => h.imp id (fun h => h.wide (by simp)))
 ·exact (ln_end HP.out HE_3.out HX.out (by have := HNl.out; simp; omega) HLn.out hz1).2.imp (fun _ h => h.imp id (fun h => h.wide (by simp)))
 ·have ho := HOY.out.grl hgz (by have := HNl.out; have := HGl.out; simp [Value.ownBlock]; omega)
  exact (Sp.ownN (w0 := w) (D := mcD) itvE_len ho HE_W.out.size (by simp)).imp (fun b h => .inr h.2)
end Go.Proofs.YtiacdohaiidehaaGreatDoor
