/- The lines of the cache (simulcast/line). -/
import Derived.Test.YtiacdohaiidehaaGreatDoorPk09
namespace Go.Proofs.YtiacdohaiidehaaGreatDoor
set_option linter.unusedSimpArgs false
set_option linter.unusedVariables false
open Go.RowKit Go.Maps
theorem lhas_any (fa : Option Addr) (fn fc : Nat) (la : Option Addr) (ln lc : Nat) (q : Option Nat) (t : Int) (w : World) : Calls Tryz.prog 127 #[.agg #[.slice fa fn fc, .slice la ln lc, .map q], .int .i64 t] w fun e w' => e = .returned (.bool (decide (0 ≤ t) && decide (t < fn))) ∧ ∃ r, w' = ext w r := by
 by_cases h1 : 0 ≤ t
 ·by_cases h2 : t < fn
  all_goals
   go_enter Tryz.func127, Tryz.ntmps127
   go_wp2_with fail
   go_ret
   exact ⟨by simp [h1, h2], by exact exP⟩
 ·go_enter Tryz.func127, Tryz.ntmps127
  go_wp2_with fail
  go_ret
  exact ⟨by have e : decide (0 ≤ t) = false := decide_eq_false (by omega); rw [e]; rfl, by exact exP⟩
abbrev RLg := (Option Addr × Nat × Nat) × Int
def lgE (r : RLg) : List Value := [.slice r.1.1 r.1.2.1 r.1.2.2, .int .i64 r.2]
theorem lgE_len (r : RLg) : (lgE r).length = 2 := rfl
theorem lgE_one (r : RLg) : ∀ u ∈ lgE r, u.oneCell' = true := by intro u hu; simp [lgE] at hu; rcases hu with rfl | rfl <;> rfl
theorem wdE_one' (r : Wd) : ∀ u ∈ wdE r, u.oneCell' = true := by intro u hu; simp [wdE] at hu; rcases hu with rfl | rfl | rfl <;> rfl
theorem Tryz.infoLg : (Tryz.prog.info? 220).map (fun i => (i.zero, i.size, i.bytes)) = some (some (.agg #[.slice none 0 0, .int .i64 0]), 2, 32) := by kernel_rfl
theorem lg_append {ops : Array Oper} {rest : List Oper} {o : Oper} {a : Act} {Q : Exit → Act → World → Prop} {w : World} {base : Nat} {v : Value} {l : List RLg} (hgd : o.guard = none)
 (s x : Operand) (ho : o.op = .call { callee := .builtin .append, args := #[s, x], argTypes := #[83, 83] })
 (W : World) (hW : Ext W w) (hWb : W.heap.size ≤ base) (hbw : base ≤ w.heap.size) (hs : a.eval s = v) (hown : Own w base 220 2 lgE v l)
 (ad : Addr) (m c : Nat) (hx : a.eval x = .slice (some ad) m c) (news : List RLg) (hm : news.length = m)
 (hnews : ∀ (j : Nat) (u : Value), (news.flatMap lgE)[j]? = some u → w.cell? (ad.add j) = some u)
 (hlen : l.length + m ≤ 1000000)
 (h : ∀ v' r, Own (ext W r) base 220 2 lgE v' (l ++ news) → wpList Tryz.prog ops Q rest (a.put o.dst v') (ext W r)) : wpList Tryz.prog ops Q (o :: rest) a w := by
 obtain ⟨i0, hi, hz0, hz1, hz2⟩ := info_parts Tryz.infoLg
 exact own_append (Tryz.underlying83) hi hz0 hz1 hz2 rfl (by decide) lgE_len lgE_one hgd s x ho W hW hWb hbw hs hown ad m c hx news hm hnews (by unfold maxLen; omega) (by omega) h
set_option maxHeartbeats 1000000 in
theorem lg_clone (l : List RLg) (v : Value) (w : World) (hl : l.length ≤ 100000) (hv : Sl w 2 lgE v l) :
 Calls Tryz.prog 130 #[v] w fun y w' => ∃ v', y = .returned v' ∧ (∃ r, w' = ext w r) ∧ Own w' w.heap.size 220 2 lgE v' l := by
 have HV := hid hv
 obtain ⟨a, c, rfl, ⟨hm, hlc⟩, hr⟩ := hv
 have hnil := fun (w : World) (a : Option Addr) (n c : Nat) => Lib.run_eql_slice_nil (P := Tryz.prog) w 83 220 a n c 0 0 (Tryz.underlying83)
 cases a with
 | none =>
  have hl0 : l = [] := by
   cases l with
   | nil => rfl
   | cons x r => obtain ⟨b, o, h, _⟩ := hr (by simp); cases h
  clear hr HV
  go_enter Tryz.func130, Tryz.ntmps130
  go_wp2_with fail
  go_ret
  exact ⟨_, rfl, by exact exP, by rw [hl0]; exact Own.nil⟩
 | some ad =>
  have HF := hid (Sl.flat lgE_len (by omega) HV.out)
  have hb : w.heap.size ≤ (w.alloc (.cells #[] 220)).heap.size := by simp
  clear hr HV
  go_enter Tryz.func130, Tryz.ntmps130
  go_wp2_with (at_builtin; refine lg_append rfl _ _ rfl w (by exact exP) (Nat.le_refl _) (by (first | exact Nat.le_refl _ | (simp; done) | (simp; omega))) rfl (Own.made #[] [] 0 rfl (Nat.le_refl _) (by unfold maxLen; omega) rfl rfl) ad l.length c rfl l rfl (fun j u hu => Ext.cell (Ext.of_alloc _ _) (HF.out j u hu)) (by simp; omega) ?_; rintro v' r' hv')
  go_ret
  exact ⟨_, rfl, by exact exP, hv'⟩
theorem Tryz.infoWdc : (Tryz.prog.info? 44).map (fun i => (i.zero, i.size, i.bytes)) = some (some (.agg #[.int .i64 0, .int .u32 0, .int .u32 0]), 3, 16) := by kernel_rfl
theorem wdc_append {ops : Array Oper} {rest : List Oper} {o : Oper} {a : Act} {Q : Exit → Act → World → Prop} {w : World} {base : Nat} {v : Value} {l : List Wd} (hgd : o.guard = none)
 (s x : Operand) (ho : o.op = .call { callee := .builtin .append, args := #[s, x], argTypes := #[82, 82] })
 (W : World) (hW : Ext W w) (hWb : W.heap.size ≤ base) (hbw : base ≤ w.heap.size) (hs : a.eval s = v) (hown : Own w base 44 3 wdE v l)
 (ad : Addr) (m c : Nat) (hx : a.eval x = .slice (some ad) m c) (news : List Wd) (hm : news.length = m)
 (hnews : ∀ (j : Nat) (u : Value), (news.flatMap wdE)[j]? = some u → w.cell? (ad.add j) = some u)
 (hlen : l.length + m ≤ 1000000)
 (h : ∀ v' r, Own (ext W r) base 44 3 wdE v' (l ++ news) → wpList Tryz.prog ops Q rest (a.put o.dst v') (ext W r)) : wpList Tryz.prog ops Q (o :: rest) a w := by
 obtain ⟨i0, hi, hz0, hz1, hz2⟩ := info_parts Tryz.infoWdc
 exact own_append (Tryz.underlying82) hi hz0 hz1 hz2 rfl (by decide) wdE_len wdE_one' hgd s x ho W hW hWb hbw hs hown ad m c hx news hm hnews (by unfold maxLen; omega) (by omega) h
set_option maxHeartbeats 1000000 in
theorem wdc_clone (l : List Wd) (v : Value) (w : World) (hl : l.length ≤ 100000) (hv : Sl w 3 wdE v l) :
 Calls Tryz.prog 96 #[v] w fun y w' => ∃ v', y = .returned v' ∧ (∃ r, w' = ext w r) ∧ Own w' w.heap.size 44 3 wdE v' l := by
 have HV := hid hv
 obtain ⟨a, c, rfl, ⟨hm, hlc⟩, hr⟩ := hv
 have hnil := fun (w : World) (a : Option Addr) (n c : Nat) => Lib.run_eql_slice_nil (P := Tryz.prog) w 82 44 a n c 0 0 (Tryz.underlying82)
 cases a with
 | none =>
  have hl0 : l = [] := by
   cases l with
   | nil => rfl
   | cons x r => obtain ⟨b, o, h, _⟩ := hr (by simp); cases h
  clear hr HV
  go_enter Tryz.func96, Tryz.ntmps96
  go_wp2_with fail
  go_ret
  exact ⟨_, rfl, by exact exP, by rw [hl0]; exact Own.nil⟩
 | some ad =>
  have HF := hid (Sl.flat wdE_len (by omega) HV.out)
  have hb : w.heap.size ≤ (w.alloc (.cells #[] 44)).heap.size := by simp
  clear hr HV
  go_enter Tryz.func96, Tryz.ntmps96
  go_wp2_with (at_builtin; refine wdc_append rfl _ _ rfl w (by exact exP) (Nat.le_refl _) (by (first | exact Nat.le_refl _ | (simp; done) | (simp; omega))) rfl (Own.made #[] [] 0 rfl (Nat.le_refl _) (by unfold maxLen; omega) rfl rfl) ad l.length c rfl l rfl (fun j u hu => Ext.cell (Ext.of_alloc _ _) (HF.out j u hu)) (by simp; omega) ?_; rintro v' r' hv')
  go_ret
  exact ⟨_, rfl, by exact exP, hv'⟩
structure Ln where
 first : List Wd
 logs : List (List (Int × Wd) × Nat)
def stE (r : Int × Wd) : List Value := [.int .i64 r.1, .int .i64 r.2.1, .int .u32 r.2.2.1, .int .u32 r.2.2.2]
theorem stE_len (r : Int × Wd) : (stE r).length = 4 := rfl
def LnR (w : World) (P : Nat → Prop) (fv lv : Value) (m : Ln) : Prop := Sp w P 3 wdE fv m.first ∧ ∃ rs : List RLg, Sp w P 2 lgE lv rs ∧ rs.length = m.logs.length ∧
 ∀ (i : Nat) (r : RLg) (l : List (Int × Wd) × Nat), rs[i]? = some r → m.logs[i]? = some l → r.2 = l.2 ∧ Sp w P 4 stE (.slice r.1.1 r.1.2.1 r.1.2.2) l.1
abbrev lnD : List TypeId := [44, 220, 222]
section
variable {w w' : World} {P : Nat → Prop} {fv lv : Value} {m : Ln}
theorem LnR.kp (h : LnR w P fv lv m) (k : KpB P w w') : LnR w' P fv lv m := by
 obtain ⟨h0, rs, h1, h2, h3⟩ := h
 exact ⟨h0.kp wdE_len k, rs, h1.kp lgE_len k, h2, fun i r l a b => ⟨(h3 i r l a b).1, (h3 i r l a b).2.kp stE_len k⟩⟩
theorem LnR.of (h : LnR w P fv lv m) (he : Ext w w') : LnR w' P fv lv m := h.kp (KpB.of_ext he)
theorem LnR.imp (h : LnR w P fv lv m) {P' : Nat → Prop} (hp : ∀ b, P b → P' b) : LnR w P' fv lv m := by
 obtain ⟨h0, rs, h1, h2, h3⟩ := h
 exact ⟨h0.imp hp, rs, h1.imp hp, h2, fun i r l a b => ⟨(h3 i r l a b).1, (h3 i r l a b).2.imp hp⟩⟩
theorem LnR.bnd (h : LnR w P fv lv m) : LnR w (fun b => P b ∧ b < w.heap.size) fv lv m := by
 obtain ⟨h0, rs, h1, h2, h3⟩ := h
 exact ⟨h0.bnd, rs, h1.bnd, h2, fun i r l a b => ⟨(h3 i r l a b).1, (h3 i r l a b).2.bnd⟩⟩
end
theorem made_logs (n : Nat) : (madeCells #[.slice none 0 0, .int .i64 0] (n * 2)).toList = (List.replicate n (((none, 0, 0), 0) : RLg)).flatMap lgE := by
 apply List.ext_getElem?
 intro i
 by_cases hi : i < n * 2
 ·have h1 : (List.replicate n (((none, 0, 0), 0) : RLg))[i / 2]? = some ((none, 0, 0), 0) := by rw [List.getElem?_replicate, if_pos (by omega)]
  have h2 := flat_at lgE_len _ _ _ h1 (i % 2) (Nat.mod_lt _ (by omega))
  rw [show 2 * (i / 2) + i % 2 = i from by omega] at h2
  rw [h2]
  simp only [madeCells, Array.toList_map, Array.toList_range, List.getElem?_map, List.getElem?_range hi, Option.map_some, lgE]
  have h3 : i % 2 = 0 ∨ i % 2 = 1 := by omega
  rcases h3 with h3 | h3 <;> simp [h3]
 ·rw [List.getElem?_eq_none (by simp [size_madeCells]; omega), List.getElem?_eq_none (by rw [flat_len lgE_len, List.length_replicate]; omega)]
theorem mk_logs (n : Nat) (hn : n ≤ 100000) (w : World) : (Instr.makeSlice 83 (.int .i64 n) (.int .i64 n)).run Tryz.prog w =
 .ok (.slice (some ⟨w.heap.size, 0, none⟩) n n) (w.alloc (.cells (madeCells #[.slice none 0 0, .int .i64 0] (n * 2)) 220)) := by
 obtain ⟨i0, hi, hz0, hz1, hz2⟩ := info_parts Tryz.infoLg
 have := run_make (P := Tryz.prog) w 83 220 i0 _ Tryz.underlying83 hi hz0 .i64 .i64 n n (by omega) (by omega) (by rw [hz2]; omega) (by omega)
 have hcs : (Value.agg #[.slice none 0 0, .int .i64 0]).cells = #[.slice none 0 0, .int .i64 0] := by simp [Value.cells]
 rw [hz1, hcs] at this
 simpa using this
set_option maxRecDepth 100000 in
set_option maxHeartbeats 1000000 in
theorem lnew_any {w : World} {a : Option Addr} {k c : Nat} {ws : List Wd} (hw : Sl w 3 wdE (.slice a k c) ws) (hk : k ≤ 4096) (nl : Nat) (hnl : nl = (k + 7) / 8) :
 Calls Tryz.prog 76 #[.slice a k c] w fun e w' => ∃ fa fc la, e = .returned (.tuple #[.agg #[.slice fa k fc, .slice la nl nl, .map none], .int .i64 0]) ∧ Ext w w' ∧ LnR w' (NewB lnD w w') (.slice fa k fc) (.slice la nl nl) ⟨ws, List.replicate nl ([], 0)⟩ := by
 have hkl : k = ws.length := by obtain ⟨a', c', hv, _⟩ := hw; simp only [Value.slice.injEq] at hv; exact hv.2.1
 have HKl := hid hkl
 have HW := hid hw
 have HK := hid hk
 have HNl := hid hnl
 have g4 : ¬ (4096 < (k : Int)) := by omega
 obtain ⟨k8, hk8⟩ : ∃ x, x = k + 8 := ⟨_, rfl⟩
 obtain ⟨k7, hk7⟩ : ∃ x, x = k + 7 := ⟨_, rfl⟩
 have ht1 : IntKind.i64.wrap ((k : Int) + 8) = (k8 : Int) := by rw [IntWalk.i64_in _ (by omega)]; omega
 have ht2 : IntKind.i64.wrap ((k8 : Int) - 1) = (k7 : Int) := by rw [IntWalk.i64_in _ (by omega)]; omega
 have ht3 : IntKind.i64.wrap ((k7 : Int) / 8) = (nl : Int) := by rw [IntWalk.i64_in _ (by omega)]; omega
 have hmk := mk_logs nl (by omega)
 clear hkl hw hk hnl hk8 hk7
 go_enter Tryz.func76, Tryz.ntmps76
 go_upto_region 3 with fail
 generalize hV : World.alloc _ _ = V
 have HEV := hid (show Ext w V by rw [← hV]; exact exP)
 have HB2 := hid (show Blk V w.heap.size [.slice none 0 0, .slice none 0 0, .map none] by rw [← hV]; exact bkP)
 obtain ⟨g2, hg2⟩ : ∃ g, g = w.heap.size := ⟨_, rfl⟩
 have HGw := hid (show w.heap.size = g2 from hg2.symm)
 rw [← hg2] at HB2 ⊢
 clear hV hg2
 refine wp_region_facts [8, 9, 10, 11, 12, 13, 14, 15, 16] [0, 1, 2, 3, 4, 5, 6, 7, 8] rfl (fun w' => Ext V w') (fsAt [IsV ?_, (fun v w' => ∃ fa fc, v = .slice fa k fc ∧ Own w' V.heap.size 44 3 wdE (.slice fa k fc) ws), IsV ?_, IsV ?_, IsV ?_, IsV ?_, IsV ?_, (fun v w' => ∃ b, v = .slice (some ⟨b, 0, none⟩) nl nl ∧ w'.heap[b]? = some (.cells (madeCells #[.slice none 0 0, .int .i64 0] (nl * 2)) 220 (0, 0)) ∧ V.heap.size ≤ b), (fun v w' => ∃ fa fc b, v = .agg #[.slice fa k fc, .slice (some ⟨b, 0, none⟩) nl nl, .map none] ∧ Own w' V.heap.size 44 3 wdE (.slice fa k fc) ws ∧ w'.heap[b]? = some (.cells (madeCells #[.slice none 0 0, .int .i64 0] (nl * 2)) 220 (0, 0)) ∧ V.heap.size ≤ b)]) (by kernel_rfl) (by kernel_rfl) ((Ext.refl _).drew) (fun w w' h he => h.trans he) (aC (fun _ _ _ h _ => h) (aC (fun _ _ _ h he => by obtain ⟨p, q, h1, h2⟩ := h; exact ⟨p, q, h1, h2.of_ext he⟩) (aC (fun _ _ _ h _ => h) (aC (fun _ _ _ h _ => h) (aC (fun _ _ _ h _ => h) (aC (fun _ _ _ h _ => h) (aC (fun _ _ _ h _ => h) (aC (fun _ _ _ h he => by obtain ⟨q, h1, h2, h3⟩ := h; exact ⟨q, h1, heap_of_ext he h2, h3⟩) (aC (fun _ _ _ h he => by obtain ⟨p, q, b, h1, h2, h3, h4⟩ := h; exact ⟨p, q, b, h1, h2.of_ext he, heap_of_ext he h3, h4⟩) (AllOn.nil)))))))))) (aC ?_ (aC ?_ (aC ?_ (aC ?_ (aC ?_ (aC ?_ (aC ?_ (aC ?_ (aC ?_ (AllOn.nil)))))))))) ?_
 rotate_left 6
 ·intro A w cx hO hD
  have e0 := evO hO 0 rfl
  clear hD hO
  refine hdV rfl ?_ rfl rfl ?_ ?_
  rotate_left 1
  ·simp [go_sem, e0, cx, ht1, ht2, ht3]
   try with_reducible rfl
  ·exact IsV.mk (w := w)
 ·intro A w cx hO hD
  have e8 := evD (hD 0 (by kernel_rfl) 8 rfl)
  clear hD hO
  refine hdW rfl rfl ?_
  simp [go_sem, e8]
  refine (wdc_clone ws _ _ (by have := HKl.out; have := HK.out; omega) (HW.out.of wdE_len (HEV.out.trans cx))).mono ?_
  rintro e w' ⟨v', rfl, ⟨r', rfl⟩, hv⟩
  obtain ⟨fa, fc, hs⟩ := Own.shape hv
  rw [← HKl.out] at hs
  subst hs
  exact ⟨_, rfl, ⟨r', rfl⟩, fa, fc, rfl, Own.mono hv cx.size⟩
 ·intro A w cx hO hD
  have e0 := evO hO 0 rfl
  clear hD hO
  refine hdV rfl ?_ rfl rfl ?_ ?_
  rotate_left 1
  ·simp [go_sem, e0, cx, ht1, ht2, ht3]
   try with_reducible rfl
  ·exact IsV.mk (w := w)
 ·intro A w cx hO hD
  have e10 := evD (hD 2 (by kernel_rfl) 10 rfl)
  clear hD hO
  refine hdV rfl ?_ rfl rfl ?_ ?_
  rotate_left 1
  ·simp [go_sem, e10, cx, ht1, ht2, ht3]
   try with_reducible rfl
  ·exact IsV.mk (w := w)
 ·intro A w cx hO hD
  have e11 := evD (hD 3 (by kernel_rfl) 11 rfl)
  clear hD hO
  refine hdV rfl ?_ rfl rfl ?_ ?_
  rotate_left 1
  ·simp [go_sem, e11, cx, ht1, ht2, ht3]
   try with_reducible rfl
  ·exact IsV.mk (w := w)
 ·intro A w cx hO hD
  have e12 := evD (hD 4 (by kernel_rfl) 12 rfl)
  clear hD hO
  refine hdV rfl ?_ rfl rfl ?_ ?_
  rotate_left 1
  ·simp [go_sem, e12, cx, ht1, ht2, ht3]
   try with_reducible rfl
  ·exact IsV.mk (w := w)
 ·intro A w cx hO hD
  have e13 := evD (hD 5 (by kernel_rfl) 13 rfl)
  clear hD hO
  refine hdV rfl ?_ rfl rfl ?_ ?_
  rotate_left 1
  ·simp [go_sem, e13, cx, ht1, ht2, ht3]
   try with_reducible rfl
  ·exact IsV.mk (w := w)
 ·intro A w cx hO hD
  have e14 := evD (hD 6 (by kernel_rfl) 14 rfl)
  clear hD hO
  refine hdW rfl rfl ?_
  simp [go_sem, e14, ht1, ht2, ht3, hmk]
  exact ⟨_, rfl, Ext.of_alloc _ _, _, rfl, heap_newH rfl, cx.size⟩
 ·intro A w cx hO hD
  have e9 := hD 1 (by kernel_rfl) 9 rfl
  rw [ev_tm] at e9
  have e15 := hD 7 (by kernel_rfl) 15 rfl
  rw [ev_tm] at e15
  clear hD hO
  refine hdW rfl rfl ?_
  obtain ⟨fa, fc, e9, hv⟩ := e9
  obtain ⟨b, e15, hb, hb2⟩ := e15
  simp [go_sem, e9, e15]
  exact ⟨_, rfl, Ext.refl _, fa, fc, b, rfl, hv, hb, hb2⟩
 intro u wx hC hF
 obtain ⟨f0, f1, f2, f3, f4, f5, f6, f7, f8, _⟩ := hF
 have g0 : u 0 = _ := f0
 obtain ⟨v1, g1⟩ : ∃ v, u 1 = v := ⟨_, rfl⟩
 rw [g1] at f1
 have g2 : u 2 = _ := f2
 have g3 : u 3 = _ := f3
 have g4 : u 4 = _ := f4
 have g5 : u 5 = _ := f5
 have g6 : u 6 = _ := f6
 obtain ⟨v7, g7⟩ : ∃ v, u 7 = v := ⟨_, rfl⟩
 rw [g7] at f7
 obtain ⟨v8, g8⟩ : ∃ v, u 8 = v := ⟨_, rfl⟩
 rw [g8] at f8
 simp only [fPut, Nat.zero_add, Nat.reduceAdd, g0, g1, g2, g3, g4, g5, g6, g7, g8, Act.put, List.setIfInBounds_toArray, List.set_cons_zero, List.set_cons_succ, List.length_cons, List.length_nil, List.drop_succ_cons, List.drop_zero]
 clear g0 g1 g2 g3 g4 g5 g6 g7 g8 f0 f2 f3 f4 f5 f6
 obtain ⟨fa, fc, b, rfl, hv, hb, hb2⟩ := f8
 have HX := hid hC
 have HO := hid hv
 have HBb := hid hb
 have HBs := hid hb2
 clear hC hv hb hb2
 have h2 := HB2.out.of HX.out
 have d0 := h2.2.2 0 _ rfl
 have d1 := h2.2.2 1 _ rfl
 have d2 := h2.2.2 2 _ rfl
 have df := h2.2.1
 have dg := h2.1
 clear h2
 have HEw := hid (HEV.out.trans HX.out)
 have hgw := HGw.out
 have hg2 := HB2.out.1
 have hgle : w.heap.size ≤ g2 := by omega
 have hn2 : ¬ (V.heap.size ≤ g2) := by omega
 have HN2 := hid hn2
 have hvs := hid HEV.out.size
 clear hgw hg2 hn2
 (repeat (first | go_values | go_skip | go_guarded | go_step | go_upon | (simp only [Int.not_lt, Int.not_le] at *; go_simp) | (go_ite <;> go_prune <;> (try go_simp))))
 refine bodyPost_ret (v := .tuple #[.agg #[.slice fa k fc, .slice (some ⟨b, 0, none⟩) nl nl, .map none], .int .i64 0]) (by simp [results, Tryz.results76, go_sem, d0, d1, d2, df, dg]) rfl ⟨fa, fc, _, rfl, by exact exF, ?_, List.replicate nl ((none, 0, 0), 0), ?_, by simp, ?_⟩
 ·exact ((Sp.ownN (w0 := w) (D := lnD) wdE_len HO.out hvs.out (List.mem_cons_self ..)).kp wdE_len (((KpB.refl.setCell (fun h => HN2.out h.1) _).setCell (fun h => HN2.out h.1) _).setCell (fun h => HN2.out h.1) _)).imp (fun b h => h.2.to (Nat.le_refl _) (by exact tyP))
 ·have hne : g2 ≠ b := fun h => HN2.out (by rw [h]; exact HBs.out)
  have hbk := blk_heap HBb.out
  rw [made_logs] at hbk
  have hsl : ∀ V, Blk V b ((List.replicate nl (((none, 0, 0), 0) : RLg)).flatMap lgE) → Sl V 2 lgE (.slice (some ⟨b, 0, none⟩) nl nl) (List.replicate nl ((none, 0, 0), 0)) := fun V hV => by
   have h := sl_blk (c := nl) (enc := lgE) lgE_len hV (by rw [List.length_replicate]; have := HNl.out; have := HK.out; omega) (by rw [List.length_replicate]; exact Nat.le_refl _)
   rw [List.length_replicate] at h
   exact h
  refine ⟨hsl _ (Blk.other' hne (Blk.other' hne (Blk.other' hne hbk))), fun _ a n c he => ?_⟩
  simp only [Value.slice.injEq, Option.some.injEq] at he
  rw [← he.1]
  exact (show NewB lnD w wx b from ⟨Nat.le_trans hvs.out HBs.out, _, HBb.out, List.mem_cons_of_mem _ (List.mem_cons_self ..)⟩).to (Nat.le_refl _) (by exact tyP)
 ·intro i r l e1 e2
  dsimp only at e2
  rw [List.getElem?_replicate] at e1 e2
  split at e1
  ·rw [if_pos (by assumption)] at e2
   cases e1; cases e2
   exact ⟨rfl, Sp.nil⟩
  ·cases e1
theorem Tryz.infoSt : (Tryz.prog.info? 222).map (fun i => (i.zero, i.size, i.bytes)) = some (some (.agg #[.int .i64 0, .int .i64 0, .int .u32 0, .int .u32 0]), 4, 24) := by kernel_rfl
theorem stclip_any {w : World} {a : Option Addr} {n c : Nat} (hn : n ≤ c) (h0 : a = none → n = 0) : Calls Tryz.prog 140 #[.slice a n c] w fun e w' => e = .returned (.slice a n n) ∧ ∃ r, w' = ext w r := by
 cases a with
 | none =>
  obtain rfl := h0 rfl
  go_enter Tryz.func140, Tryz.ntmps140
  go_wp2_with fail
  go_ret
  exact ⟨rfl, by exact exP⟩
 | some ad =>
  clear h0
  go_enter Tryz.func140, Tryz.ntmps140
  go_wp2_with fail
  go_ret
  exact ⟨rfl, by exact exP⟩
theorem st_clip_op {o : Oper} {a : Act} {K : Act → World → Prop} {Q : Exit → Act → World → Prop} {w : World} {l : List (Int × Wd)}
 (s x : Operand) (ho : o.op = .call { callee := .builtin .append, args := #[s, x], argTypes := #[218, 218] })
 {sa : Option Addr} {n : Nat} (hs : a.eval s = .slice sa n n) (hsl : Sl w 4 stE (.slice sa n n) l)
 (ad : Addr) (m c : Nat) (hx : a.eval x = .slice (some ad) m c) (news : List (Int × Wd)) (hm : news.length = m) (hm0 : 0 < m)
 (hnews : ∀ (j : Nat) (u : Value), (news.flatMap stE)[j]? = some u → w.cell? (ad.add j) = some u) (hlen : n + m ≤ 1000000)
 (h : ∀ v' r, Own (ext w r) w.heap.size 222 4 stE v' (l ++ news) → K (a.put o.dst v') (ext w r)) : Oper.wp Tryz.prog o a w K Q := by
 obtain ⟨i0, hi, hz0, hz1, hz2⟩ := info_parts Tryz.infoSt
 exact app_clip_op Tryz.underlying218 hi hz0 hz1 hz2 rfl (by decide) stE_len s x ho hs hsl ad m c hx news hm hm0 hnews (by unfold maxLen; omega) (by omega) h
def lnStores (m : Ln) (n : Nat) (l : List (Int × Wd) × Nat) (at_ : Int) (x : Wd) : Ln := ⟨m.first, m.logs.set n (l.1 ++ [(at_, x)], l.2)⟩
end Go.Proofs.YtiacdohaiidehaaGreatDoor
