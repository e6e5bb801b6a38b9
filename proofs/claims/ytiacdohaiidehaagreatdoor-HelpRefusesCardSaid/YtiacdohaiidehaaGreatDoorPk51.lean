/- Law 20: helpers for its world and its example: appending codes, a new help as it lies. Law 20: World. -/
import Derived.Test.YtiacdohaiidehaaGreatDoorPk50
namespace Go.Proofs.YtiacdohaiidehaaGreatDoor
set_option linter.unusedSimpArgs false
set_option linter.unusedVariables false
open Go.RowKit Go.Maps
theorem Tryz.hinfo_if : (Tryz.prog.info? 33).map (fun i => (i.zero, i.size, i.bytes)) = some (some .nilIface, 1, 16) := by kernel_rfl
theorem hif_append {T : TypeId} {ops : Array Oper} {rest : List Oper} {o : Oper} {a : Act} {Q : Exit → Act → World → Prop} {w : World} {base : Nat} {v : Value} {l : List Value} (hgd : o.guard = none)
 (s x : Operand) (ho : o.op = .call { callee := .builtin .append, args := #[s, x], argTypes := #[137, 137] })
 (W : World) (hW : Ext W w) (hWb : W.heap.size ≤ base) (hbw : base ≤ w.heap.size) (hs : a.eval s = v) (hown : Own w base 33 1 (ifE T) v l)
 (ad : Addr) (m c : Nat) (hx : a.eval x = .slice (some ad) m c) (news : List Value) (hm : news.length = m)
 (hnews : ∀ (j : Nat) (u : Value), (news.flatMap (ifE T))[j]? = some u → w.cell? (ad.add j) = some u)
 (hlen : l.length + m ≤ 1000000)
 (h : ∀ v' r, Own (ext W r) base 33 1 (ifE T) v' (l ++ news) → wpList Tryz.prog ops Q rest (a.put o.dst v') (ext W r)) : wpList Tryz.prog ops Q (o :: rest) a w := by
 obtain ⟨i0, hi, hz0, hz1, hz2⟩ := info_parts Tryz.hinfo_if
 exact own_append (Tryz.underlying137) hi hz0 hz1 hz2 rfl (by decide) (ifE_len T) (fun r u hu => by simp [ifE] at hu; subst hu; rfl) hgd s x ho W hW hWb hbw hs hown ad m c hx news hm hnews (by unfold maxLen; omega) (by omega) h
theorem hblk_news1 {T : TypeId} {w : World} {b : Nat} {x : Value} (h : Blk w b (ifE T x)) : ∀ (j : Nat) (u : Value), ([x].flatMap (ifE T))[j]? = some u → w.cell? ((⟨b, 0, none⟩ : Addr).add j) = some u := blk_newsT h
theorem htake_snoc {α : Type} (l : List α) (j : Nat) (x : α) (h : l[j]? = some x) : l.take (j + 1) = l.take j ++ [x] := by
 rw [List.take_add_one, h]; rfl
theorem hslot_next {j q : Nat} (h : q = j + 1) {n : Nat} (hj : j < n) : q ≤ n := by omega
theorem hmeas_next {j q n : Nat} (hj : j < n) (h : q = j + 1) : n - (intOf (.int .i64 (q : Int))).toNat < n - (intOf (.int .i64 (j : Int))).toNat := by
 simp [intOf]; omega
theorem hval_next {j q : Nat} (h : q = j + 1) : Value.int .i64 ((j : Int) + 1) = .int .i64 (q : Int) := by subst h; rfl
theorem hmeas_next' {j q n : Nat} (hj : j < n) (h : q = j + 1) : n - (intOf (.int .i64 ((j : Int) + 1))).toNat < n - (intOf (.int .i64 (j : Int))).toNat := by
 rw [hval_next h]; exact hmeas_next hj h
theorem htsteps_any (c0 n0 : Value) (a : A8) (ga : Option Addr) (gn gc : Nat) (w : World) :
 Calls Tryz.prog 22 #[.agg (tkL c0 n0 a ga gn gc).toArray] w fun e w' => e = .returned (.int .i64 gn) ∧ ∃ r, w' = ext w r := by
 go_enter Tryz.func22, Tryz.ntmps22
 go_wp2_with fail
 go_ret
 exact ⟨rfl, by exact exP⟩
def hxN (t c b : Int) (dur : Bool) : HX := ⟨t, c, b, dur, .slice none 0 0, .slice none 0 0, .nilIface⟩
def hvN (t c b : Int) (dur : Bool) (r : Int) : Value := .agg (hL (hR (hxN t c b dur) (hpNew t c b r))).toArray
theorem hn_to {t c b : Int} {m : Wd} (hm : WdOk m) (hf : (whoN m.2.2).1 ≠ 0 ∧ 0 ≤ (placeN t c b (whoN m.2.2).1).1) : HdTo t c b (hpNew t c b m.2.2) := by
 refine .inr ⟨⟨new_ok hm hf, ?_, ?_, ?_, ?_, ?_, ?_, ?_, ?_, ?_⟩, ?_⟩
 all_goals simp [hpNew]
theorem hn_new {t c b : Int} {dur : Bool} {w : World} {P : Nat → Prop} {m : Wd} (hm : WdOk m) (hf : (whoN m.2.2).1 ≠ 0 ∧ 0 ≤ (placeN t c b (whoN m.2.2).1).1) : HhR t c b dur w P [hpNew t c b m.2.2] (hR (hxN t c b dur) (hpNew t c b m.2.2)) :=
 ⟨⟨hxN t c b dur, rfl, rfl, rfl, rfl, rfl, rfl, ⟨rfl, rfl, rfl⟩, Sp.nil, Sp.nil⟩, hn_to hm hf⟩
theorem chk381 : checkN 3 8 1 = 0 := by kernel_rfl
theorem new31 (q : Nat) (hq : q < 3) : (whoN ((((q : Int) + 1) * 16777216 + 1))).1 ≠ 0 ∧ 0 ≤ (placeN 3 8 1 (whoN ((((q : Int) + 1) * 16777216 + 1))).1).1 := by
 have h : q = 0 ∨ q = 1 ∨ q = 2 := by omega
 rcases h with rfl | rfl | rfl
 ·have h1 : (whoN ((((0 : Nat) : Int) + 1) * 16777216 + 1)).1 = 1 := by kernel_rfl
  have h2 : (placeN 3 8 1 (whoN ((((0 : Nat) : Int) + 1) * 16777216 + 1)).1).1 = 64 := by kernel_rfl
  exact ⟨by rw [h1]; decide, by rw [h2]; decide⟩
 ·have h1 : (whoN ((((1 : Nat) : Int) + 1) * 16777216 + 1)).1 = 2 := by kernel_rfl
  have h2 : (placeN 3 8 1 (whoN ((((1 : Nat) : Int) + 1) * 16777216 + 1)).1).1 = 168 := by kernel_rfl
  exact ⟨by rw [h1]; decide, by rw [h2]; decide⟩
 ·have h1 : (whoN ((((2 : Nat) : Int) + 1) * 16777216 + 1)).1 = 3 := by kernel_rfl
  have h2 : (placeN 3 8 1 (whoN ((((2 : Nat) : Int) + 1) * 16777216 + 1)).1).1 = 272 := by kernel_rfl
  exact ⟨by rw [h1]; decide, by rw [h2]; decide⟩
theorem hn_R {dur : Bool} {w : World} {P : Nat → Prop} (hs : Szs w) (hP : P 0) (q : Nat) (hq : q < 3) : (hpK 3 8 1 dur chk381).R w P (hvN 3 8 1 dur (((q : Int) + 1) * 16777216 + 1)) [hpNew 3 8 1 (((q : Int) + 1) * 16777216 + 1)] :=
 ⟨⟨hP, hs⟩, _, rfl, hn_new (m := (0, 0, ((q : Int) + 1) * 16777216 + 1)) ⟨⟨by dsimp only; omega, by dsimp only; omega⟩, ⟨by dsimp only; omega, by dsimp only; omega⟩, ⟨by dsimp only; omega, by dsimp only; omega⟩⟩ (new31 q hq)⟩
open Go.RowKit Go.Maps
def slotQ (n : Nat) (o : Int) : Nat := (o % (n : Int)).toNat
theorem slotQ_facts {n : Nat} (h0 : 0 < n) (h3 : n ≤ 3) {o : Int} (ho : 0 ≤ o ∧ o ≤ 255) : slotQ n o < 3 ∧ o.tmod (n : Int) = (slotQ n o : Int) ∧ IntKind.i64.wrap (slotQ n o : Int) = (slotQ n o : Int) ∧ IntKind.i64.wrap ((slotQ n o : Int) + 1) = (slotQ n o : Int) + 1 := by
 have h1 := Int.emod_nonneg o (show (n : Int) ≠ 0 by omega)
 have h2 := Int.emod_lt_of_pos o (show (0 : Int) < (n : Int) by omega)
 have h3 : (slotQ n o : Int) = o % (n : Int) := by unfold slotQ; omega
 refine ⟨by omega, ?_, ?_, ?_⟩
 ·rw [Int.tmod_eq_emod_of_nonneg ho.1, h3]
 ·exact IntWalk.i64_in _ (by omega)
 ·exact IntWalk.i64_in _ (by omega)
def refQ (n : Nat) (o : Int) : Int := ((slotQ n o : Int) + 1) * 16777216 + 1
theorem newQ {n : Nat} (h0 : 0 < n) (h3 : n ≤ 3) {o : Int} (ho : 0 ≤ o ∧ o ≤ 255) (dur : Bool) : (if checkN 3 8 1 ≠ 0 then Value.tuple #[.nilIface, .int .i64 1] else if (whoN (refQ n o)).1 = 0 ∨ (placeN 3 8 1 (whoN (refQ n o)).1).1 < 0 then .tuple #[.nilIface, .int .i64 3] else .tuple #[.iface hpT (.agg (hL (hR (⟨3, 8, 1, dur, .slice none 0 0, .slice none 0 0, .nilIface⟩ : HX) (hpNew 3 8 1 (refQ n o)))).toArray), .int .i64 0]) = .tuple #[.iface hpT (hvN 3 8 1 dur (refQ n o)), .int .i64 0] := by
 have h := new31 (slotQ n o) (slotQ_facts h0 h3 ho).1
 have e : ((slotQ n o : Int) + 1) * 16777216 + 1 = refQ n o := rfl
 rw [e] at h
 rw [if_neg (by rw [chk381]; simp), if_neg (by intro hh; rcases hh with hh | hh; exact h.1 hh; omega)]
 rfl
def cs20 (dur : Bool) (n : Nat) (l : List Int) : List (hpK 3 8 1 dur chk381).C := l.map (fun o => (show (hpK 3 8 1 dur chk381).C from [hpNew 3 8 1 (refQ n o)]))
theorem cs20_len (dur : Bool) (n : Nat) (l : List Int) : (cs20 dur n l).length = l.length := by unfold cs20; rw [List.length_map]
theorem cs20_at {dur : Bool} {n : Nat} {l : List Int} {i : Nat} {c : (hpK 3 8 1 dur chk381).C} (h : (cs20 dur n l)[i]? = some c) : ∃ o, l[i]? = some o ∧ (show List Hd from c) = [hpNew 3 8 1 (refQ n o)] := by
 unfold cs20 at h
 rw [List.getElem?_map] at h
 obtain ⟨o, h1, h2⟩ := Option.map_eq_some_iff.1 h
 exact ⟨o, h1, h2.symm⟩
theorem cs20_R {w : World} (hs : Szs w) {P : Nat → Prop} (hP : P 0) {n : Nat} (h0 : 0 < n ∧ n ≤ 3) {l : List Int} (hl : ∀ a ∈ l, 0 ≤ a ∧ a ≤ 255) (dur : Bool) (i : Nat) (cv : Value) (c : (hpK 3 8 1 dur chk381).C) (e1 : (l.map (fun o => hvN 3 8 1 dur (refQ n o)))[i]? = some cv) (e2 : (cs20 dur n l)[i]? = some c) : (hpK 3 8 1 dur chk381).R w P cv c := by
 rw [List.getElem?_map] at e1
 obtain ⟨o, h1, rfl⟩ := Option.map_eq_some_iff.1 e1
 obtain ⟨o', h2, h3⟩ := cs20_at e2
 rw [h1] at h2
 cases h2
 have := hn_R (dur := dur) hs hP (slotQ n o) (slotQ_facts h0.1 h0.2 (hl _ (List.mem_of_getElem? h1))).1
 exact h3 ▸ this
theorem of3 {w : World} {b : Nat} {o0 o1 o2 : Int} (h : Blk w b [.int .u8 o0, .int .u8 o1, .int .u8 o2]) {j : Nat} {o : Int} (hj : [o0, o1, o2][j]? = some o) : w.cell? ⟨b, j, none⟩ = some (.int .u8 o) := by
 refine h.2.2 j _ ?_
 match j, hj with
 | 0, hj => cases hj; rfl
 | 1, hj => cases hj; rfl
 | 2, hj => cases hj; rfl
theorem hGd0 {dur : Bool} : (hpK 3 8 1 dur chk381).Gd ((0, 0, 0), false) := (show WdOk (0, 0, 0) from ⟨by decide, by decide, by decide⟩)
section
variable (a0 a1 a2 a3 a4 a5 b0 b1 b2 b3 b4 b5 : Int)
set_option maxRecDepth 100000 in
set_option maxHeartbeats 1000000 in
theorem world20_any (hva : ∀ a ∈ [a0, a1, a2, a3, a4, a5], -128 ≤ a ∧ a ≤ 127) (hvb : ∀ a ∈ [b0, b1, b2, b3, b4, b5], 0 ≤ a ∧ a ≤ 255) (o0 o1 o2 : Int) (ho : ∀ a ∈ [o0, o1, o2], 0 ≤ a ∧ a ≤ 255) (dur : Bool) (sv : Value) (sw : List Swp) (w : World) (hs : Szs w) (hsz : 0 < w.heap.size) (hv : Sl w 1 swE sv sw) (hk : ∀ a ∈ sw, SwOk w a) (hf : few20 sw = true) (h0 : 0 < sw.length) (L : List Wd) (hL : sw20 [a0, a1, a2, a3, a4, a5] [b0, b1, b2, b3, b4, b5] sw 0 (setTo [a0, a1, a2, a3, a4, a5] [b0, b1, b2, b3, b4, b5] (firstL 3 8 1) 6) = some L) :
 Calls Tryz.prog 20 #[.agg #[.int .i8 a0, .int .i8 a1, .int .i8 a2, .int .i8 a3, .int .i8 a4, .int .i8 a5, .int .u8 b0, .int .u8 b1, .int .u8 b2, .int .u8 b3, .int .u8 b4, .int .u8 b5, sv], .agg #[.int .u8 o0, .int .u8 o1, .int .u8 o2], .bool dur] w fun e w' => ∃ v', e = .returned (.tuple #[v', .bool true]) ∧ Ext w w' ∧ WV (hpK 3 8 1 dur chk381) w' (fun b => b = 0 ∨ w.heap.size ≤ b) none 0 v' (mcW 3 L 52) ((cs20 dur sw.length [o0, o1, o2]).map (tkStart (hpK 3 8 1 dur chk381))) [false, false, false] := by
 have HS := hid hs
 have HW1 := hid (fun (W : World) (he : Ext w W) => words20x_any a0 a1 a2 a3 a4 a5 b0 b1 b2 b3 b4 b5 hva hvb sv sw W (hs.of he) (hv.of swE_len he) (fun a ha => (hk a ha).of he) hf)
 rw [hL] at HW1
 obtain ⟨hf1, hf2⟩ := few20_len hf
 obtain ⟨n, hn⟩ : ∃ n, n = sw.length := ⟨_, rfl⟩
 obtain ⟨sa, sc, rfl, hm, hq⟩ := hv
 rw [← hn] at HW1 h0 hf1 ⊢
 have HF := hid (And.intro h0 hf1)
 have HOf := hid ho
 have hb0 : ((n : Int) == 0) = false := beq_eq_false_iff_ne.2 (by omega)
 have hn0 : ¬ n = 0 := by omega
 have hn0' : ¬ (n : Int) = 0 := by omega
 have HSz := hid hsz
 clear hm hq hs hk hva hvb hf hf2 hL hf1 h0 ho hn hsz
 go_enter Tryz.func20, Tryz.ntmps20
 go_wp2_with fail
 generalize hV_ : World.alloc _ _ = V
 have HE_V := hid (show Ext w V by rw [← hV_]; exact exP)
 have HB_b3 := hid (show Blk V (w.heap.size) [.int .i8 a0, .int .i8 a1, .int .i8 a2, .int .i8 a3, .int .i8 a4, .int .i8 a5, .int .u8 b0, .int .u8 b1, .int .u8 b2, .int .u8 b3, .int .u8 b4, .int .u8 b5, .slice sa n sc] by rw [← hV_]; exact bkP)
 have HB_b4 := hid (show Blk V (w.heap.size + 1) [.int .u8 o0, .int .u8 o1, .int .u8 o2] by rw [← hV_]; exact bkP)
 have HB_b6 := hid (show Blk V (w.heap.size + 1 + 1) [.slice none 0 0, .slice none 0 0, .slice none 0 0, .slice none 0 0, .map none, .slice none 0 0, .int .i64 0, .slice none 0 0, .slice none 0 0] by rw [← hV_]; exact bkP)
 clear hV_
 obtain ⟨b6, hg_b6⟩ : ∃ g, g = w.heap.size + 1 + 1 := ⟨_, rfl⟩
 simp only [← hg_b6] at HB_b6 ⊢
 obtain ⟨b4, hg_b4⟩ : ∃ g, g = w.heap.size + 1 := ⟨_, rfl⟩
 simp only [← hg_b4] at HB_b4 ⊢
 obtain ⟨b3, hg_b3⟩ : ∃ g, g = w.heap.size := ⟨_, rfl⟩
 simp only [← hg_b3] at HB_b3 ⊢
 have HN_V := hid (show b3 = w.heap.size ∧ b4 = w.heap.size + 1 ∧ b6 = w.heap.size + 1 + 1 ∧ b6 < V.heap.size from ⟨hg_b3, hg_b4, hg_b6, HB_b6.out.1⟩)
 clear hg_b3 hg_b4 hg_b6
 refine (HW1.out V HE_V.out).mono ?_
 rintro e w2 ⟨he, h⟩
 rcases h with ⟨h, _⟩ | ⟨v2, L', h, rfl, hI, hW⟩
 ·cases h
 obtain rfl : L = L' := by cases h; rfl
 clear h
 obtain ⟨g7, c7, rfl, hg1, hg2⟩ := Own.openT hW (by rw [hI.1]; omega)
 rw [hI.1] at hW
 have HLl := hid hI.1
 rw [hI.1]
 have HE_2 := hid (show Ext V w2 from he)
 have HO := hid (show Own w2 V.heap.size 44 3 wdE (.slice (some ⟨g7, 0, none⟩) 416 c7) L from hW)
 have h3 := HB_b3.out.of he
 have k12 := h3.2.2 12 _ rfl
 have k13 := h3.1
 clear hW hg1 hg2 hI he h3
 go_wp2_with fail
 refine (mcnew_any (Sl.of_own wdE_len HO.out) (by omega) (by omega) 3 (by omega) (by omega) 52 rfl).mono ?_
 rintro e w3 ⟨pa, pc, va, vc, fa, fc, la, sa2, rfl, he, hm⟩
 have HE_3 := hid he
 have HMc := hid hm
 clear he hm k12 k13
 go_wp2_with fail
 generalize hV_ : World.alloc _ _ = Y
 have HE_Y := hid (show Ext w3 Y by rw [← hV_]; exact exP)
 have HB_b10 := hid (show Blk Y (w3.heap.size) [.slice pa 416 pc, .slice va 3 vc, .slice fa 416 fc, .slice la 52 52, .map none, .slice sa2 3 3, .int .i64 0] by rw [← hV_]; exact bkP)
 clear hV_
 obtain ⟨b10, hg_b10⟩ : ∃ g, g = w3.heap.size := ⟨_, rfl⟩
 simp only [← hg_b10] at HB_b10 ⊢
 have HN_Y := hid (show b10 = w3.heap.size ∧ b10 < Y.heap.size from ⟨hg_b10, HB_b10.out.1⟩)
 clear hg_b10
 have HwY := hid (((HE_V.out.trans HE_2.out).trans HE_3.out).trans HE_Y.out)
 have HVY := hid ((HE_2.out.trans HE_3.out).trans HE_Y.out)
 have HB3 := hid (HB_b3.out.of HVY.out)
 have HB4 := hid (HB_b4.out.of HVY.out)
 have HB6 := hid (HB_b6.out.of HVY.out)
 have HMY := hid (HMc.out.of HE_Y.out)
 have HNY := hid (show (w.heap.size ≤ b3 ∧ b3 < b4 ∧ b4 < b6) ∧ w2.heap.size ≤ b10 ∧ b10 < Y.heap.size ∧ b6 < w2.heap.size ∧ w.heap.size ≤ w2.heap.size by have h1 := HN_V.out; have h2 := HE_3.out.size; have h3 := HN_Y.out; have h4 := HE_2.out.size; have h5 := HE_V.out.size; omega)
 obtain ⟨qv, hqv⟩ : ∃ f : Int → Value, f = fun o => hvN 3 8 1 dur (refQ n o) := ⟨_, rfl⟩
 have HQv := hid hqv
 have HNew := hid (fun (o : Int) (ho : 0 ≤ o ∧ o ≤ 255) (W : World) (he : Ext w W) => show Calls Tryz.prog 8 #[.agg #[.int .i64 3, .int .i64 8, .int .i64 1], .int .u32 (((slotQ n o : Int) + 1) * 16777216 + 1), .bool dur] W fun e w' => e = .returned (.tuple #[.iface hpT (qv o), .int .i64 0]) ∧ Ext W w' by
  have h := hp_New 3 8 1 (refQ n o) dur (by unfold refQ; omega) (by have := (slotQ_facts HF.out.1 HF.out.2 ho).1; unfold refQ; omega) W (HS.out.of he)
  rw [newQ HF.out.1 HF.out.2 ho dur] at h
  rw [hqv]
  exact h)
 clear hqv HB_b3 HB_b4 HB_b6 HN_V HE_2 HO HE_3 HMc HN_Y HVY HW1
 go_loopw [12, 13] (fun cdv i_ wr => ∃ j : Nat, j ≤ 3 ∧ i_ = .int .i64 j ∧ Hid (Own wr Y.heap.size 33 1 (ifE hpT) cdv (([o0, o1, o2].take j).map qv)) ∧ Hid (Ext Y wr)) (fun _ i_ _ => 3 - (intOf i_).toNat)
 case atStart => exact ⟨0, Nat.zero_le _, rfl, hid Own.nil, hid (Ext.refl _)⟩
 case round =>
  rename_i cdv _ _
  obtain ⟨j, hjn, rfl, HO, HE⟩ := hrel
  have HJn := hid hjn
  clear hjn
  by_cases hjm : j < 3
  ·have hjm2 : (j : Int) < (3 : Int) := by omega
   have hj0 : (0 : Int) ≤ (j : Int) := by omega
   obtain ⟨o, hoo⟩ : ∃ x, [o0, o1, o2][j]? = some x := ⟨_, List.getElem?_eq_getElem (by show j < 3; exact hjm)⟩
   have hob := HOf.out o (List.mem_of_getElem? hoo)
   obtain ⟨sq, hsq⟩ : ∃ q, q = slotQ n o := ⟨_, rfl⟩
   obtain ⟨q1, q2, q3, q4⟩ := slotQ_facts HF.out.1 HF.out.2 hob
   rw [← hsq] at q1 q2 q3 q4
   have hwo : IntKind.i64.wrap o = o := IntWalk.i64_in _ (by omega)
   obtain ⟨jq, hjq⟩ : ∃ x, x = j + 1 := ⟨_, rfl⟩
   have hwq : wrap64 ((j : Int) + 1) = (jq : Int) := by rw [IntWalk.wrap64_in _ (by omega)]; omega
   have HJm := hid hjm
   have HJq := hid hjq
   have HOj := hid hoo
   have HHn := hid (HNew.out o hob)
   rw [← hsq] at HHn
   have HRf := hid (fun (W : World) => ref20_any sq (Nat.lt_trans q1 (by omega)) W)
   obtain ⟨rq, hrq⟩ : ∃ r : Int, r = ((sq : Int) + 1) * 16777216 + 1 := ⟨_, rfl⟩
   rw [← hrq] at HHn HRf
   clear hrq
   have x_of := of3 (HB4.out.of HE.out) hoo
   have x_og := (HB4.out.of HE.out).1
   have x_12 := (HB3.out.of HE.out).2.2 12 _ rfl
   have x_3g := (HB3.out.of HE.out).1
   clear hjm hjq hoo hob q1 hsq
   go_upto_region 9 with fail
   have HL_ := hid (fun w' (h : Ext wr w') => (And.intro (Nat.lt_of_lt_of_le x_og h.size) (And.intro (Nat.lt_of_lt_of_le x_3g h.size) (And.intro (h.cell x_of) (h.cell x_12)))))
   refine wp_region_facts [42, 43, 44, 45, 46, 47, 48, 49, 50, 51, 52, 53, 54, 41, 55, 56, 14, 15] [0, 1, 2, 3, 4, 5, 6, 7, 8, 9, 10, 11, 12, 13, 14, 15, 16, 17] rfl (fun w' => Ext wr w') (fsAt [IsV (.agg #[.int .i64 3, .int .i64 8, .int .i64 1]), IsV ?_, IsV ?_, IsV ?_, IsV ?_, IsV ?_, IsV ?_, IsV ?_, IsV ?_, IsV ?_, IsV (.int .u32 rq), IsV ?_, IsV (.tuple #[.iface hpT (qv o), .int .i64 0]), IsV ?_, IsV ?_, IsV ?_, IsV ?_, IsV ?_]) (by kernel_rfl) (by kernel_rfl) ((Ext.refl _).drew) (fun w w' h he => h.trans he) (aC (fun _ _ _ h _ => h) (aC (fun _ _ _ h _ => h) (aC (fun _ _ _ h _ => h) (aC (fun _ _ _ h _ => h) (aC (fun _ _ _ h _ => h) (aC (fun _ _ _ h _ => h) (aC (fun _ _ _ h _ => h) (aC (fun _ _ _ h _ => h) (aC (fun _ _ _ h _ => h) (aC (fun _ _ _ h _ => h) (aC (fun _ _ _ h _ => h) (aC (fun _ _ _ h _ => h) (aC (fun _ _ _ h _ => h) (aC (fun _ _ _ h _ => h) (aC (fun _ _ _ h _ => h) (aC (fun _ _ _ h _ => h) (aC (fun _ _ _ h _ => h) (aC (fun _ _ _ h _ => h) (AllOn.nil))))))))))))))))))) (aC ?_ (aC ?_ (aC ?_ (aC ?_ (aC ?_ (aC ?_ (aC ?_ (aC ?_ (aC ?_ (aC ?_ (aC ?_ (aC ?_ (aC ?_ (aC ?_ (aC ?_ (aC ?_ (aC ?_ (aC ?_ (AllOn.nil))))))))))))))))))) ?_
   rotate_left 15
   ·intro A w cx hO hD
    clear hD hO
    refine hdW rfl rfl ?_
    simp [go_sem]
    refine (plan20_any _).mono ?_
    rintro e w' ⟨rfl, r_, rfl⟩
    exact ⟨_, rfl, ⟨r_, rfl⟩, rfl⟩
   ·intro A w cx hO hD
    have e13 := evO hO 13 rfl
    clear hD hO
    refine hdV rfl ?_ rfl rfl ?_ ?_
    rotate_left 1
    ·simp [go_sem, e13, cx, HL_.out w cx, hwo, q2, q3, q4, hn0, hn0', hjm2, hj0]
     try with_reducible rfl
    ·exact IsV.mk (w := w)
   ·intro A w cx hO hD
    have e43 := evD (hD 1 (by kernel_rfl) 43 rfl)
    have e4 := evO hO 4 rfl
    clear hD hO
    refine hdV rfl ?_ rfl rfl ?_ ?_
    rotate_left 1
    ·simp [go_sem, e43, e4, cx, HL_.out w cx, hwo, q2, q3, q4, hn0, hn0', hjm2, hj0]
     try with_reducible rfl
    ·exact IsV.mk (w := w)
   ·intro A w cx hO hD
    have e44 := evD (hD 2 (by kernel_rfl) 44 rfl)
    clear hD hO
    refine hdV rfl ?_ rfl rfl ?_ ?_
    rotate_left 1
    ·simp [go_sem, e44, cx, HL_.out w cx, hwo, q2, q3, q4, hn0, hn0', hjm2, hj0]
     try with_reducible rfl
    ·exact IsV.mk (w := w)
   ·intro A w cx hO hD
    have e45 := evD (hD 3 (by kernel_rfl) 45 rfl)
    clear hD hO
    refine hdV rfl ?_ rfl rfl ?_ ?_
    rotate_left 1
    ·simp [go_sem, e45, cx, HL_.out w cx, hwo, q2, q3, q4, hn0, hn0', hjm2, hj0]
     try with_reducible rfl
    ·exact IsV.mk (w := w)
   ·intro A w cx hO hD
    have e3 := evO hO 3 rfl
    clear hD hO
    refine hdV rfl ?_ rfl rfl ?_ ?_
    rotate_left 1
    ·simp [go_sem, e3, cx, HL_.out w cx, hwo, q2, q3, q4, hn0, hn0', hjm2, hj0]
     try with_reducible rfl
    ·exact IsV.mk (w := w)
   ·intro A w cx hO hD
    have e47 := evD (hD 5 (by kernel_rfl) 47 rfl)
    clear hD hO
    refine hdV rfl ?_ rfl rfl ?_ ?_
    rotate_left 1
    ·simp [go_sem, e47, cx, HL_.out w cx, hwo, q2, q3, q4, hn0, hn0', hjm2, hj0]
     try with_reducible rfl
    ·exact IsV.mk (w := w)
   ·intro A w cx hO hD
    have e48 := evD (hD 6 (by kernel_rfl) 48 rfl)
    clear hD hO
    refine hdV rfl ?_ rfl rfl ?_ ?_
    rotate_left 1
    ·simp [go_sem, e48, cx, HL_.out w cx, hwo, q2, q3, q4, hn0, hn0', hjm2, hj0]
     try with_reducible rfl
    ·exact IsV.mk (w := w)
   ·intro A w cx hO hD
    have e46 := evD (hD 4 (by kernel_rfl) 46 rfl)
    have e49 := evD (hD 7 (by kernel_rfl) 49 rfl)
    clear hD hO
    refine hdV rfl ?_ rfl rfl ?_ ?_
    rotate_left 1
    ·simp [go_sem, e46, e49, cx, HL_.out w cx, hwo, q2, q3, q4, hn0, hn0', hjm2, hj0]
     try with_reducible rfl
    ·exact IsV.mk (w := w)
   ·intro A w cx hO hD
    have e50 := evD (hD 8 (by kernel_rfl) 50 rfl)
    clear hD hO
    refine hdV rfl ?_ rfl rfl ?_ ?_
    rotate_left 1
    ·simp [go_sem, e50, cx, HL_.out w cx, hwo, q2, q3, q4, hn0, hn0', hjm2, hj0]
     try with_reducible rfl
    ·exact IsV.mk (w := w)
   ·intro A w cx hO hD
    have e51 := evD (hD 9 (by kernel_rfl) 51 rfl)
    clear hD hO
    refine hdW rfl rfl ?_
    simp [go_sem, e51]
    refine (HRf.out _).mono ?_
    rintro e w' ⟨rfl, r_, rfl⟩
    exact ⟨_, rfl, ⟨r_, rfl⟩, rfl⟩
   ·intro A w cx hO hD
    have e2 := evO hO 2 rfl
    clear hD hO
    refine hdV rfl ?_ rfl rfl ?_ ?_
    rotate_left 1
    ·simp [go_sem, e2, cx, HL_.out w cx, hwo, q2, q3, q4, hn0, hn0', hjm2, hj0]
     try with_reducible rfl
    ·exact IsV.mk (w := w)
   ·intro A w cx hO hD
    have e42 := evD (hD 0 (by kernel_rfl) 42 rfl)
    have e52 := evD (hD 10 (by kernel_rfl) 52 rfl)
    have e53 := evD (hD 11 (by kernel_rfl) 53 rfl)
    clear hD hO
    refine hdW rfl rfl ?_
    simp [go_sem, e42, e52, e53]
    refine (HHn.out _ ((HwY.out.trans HE.out).trans cx)).mono ?_
    rintro e w' ⟨rfl, hx_⟩
    exact ⟨_, rfl, hx_, rfl⟩
   ·intro A w cx hO hD
    have e54 := evD (hD 12 (by kernel_rfl) 54 rfl)
    clear hD hO
    refine hdV rfl ?_ rfl rfl ?_ ?_
    rotate_left 1
    ·simp [go_sem, e54, cx, HL_.out w cx, hwo, q2, q3, q4, hn0, hn0', hjm2, hj0]
     try with_reducible rfl
    ·exact IsV.mk (w := w)
   ·intro A w cx hO hD
    have e41 := evD (hD 13 (by kernel_rfl) 41 rfl)
    clear hD hO
    refine hdV rfl ?_ rfl rfl ?_ ?_
    rotate_left 1
    ·simp [go_sem, e41, cx, HL_.out w cx, hwo, q2, q3, q4, hn0, hn0', hjm2, hj0]
     try with_reducible rfl
    ·exact IsV.mk (w := w)
   ·intro A w cx hO hD
    have e41 := evD (hD 13 (by kernel_rfl) 41 rfl)
    clear hD hO
    refine hdV rfl ?_ rfl rfl ?_ ?_
    rotate_left 1
    ·simp [go_sem, e41, cx, HL_.out w cx, hwo, q2, q3, q4, hn0, hn0', hjm2, hj0]
     try with_reducible rfl
    ·exact IsV.mk (w := w)
   ·intro A w cx hO hD
    have e55 := evD (hD 14 (by kernel_rfl) 55 rfl)
    clear hD hO
    refine hdV rfl ?_ rfl rfl ?_ ?_
    rotate_left 1
    ·simp [go_sem, e55, cx, HL_.out w cx, hwo, q2, q3, q4, hn0, hn0', hjm2, hj0]
     try with_reducible rfl
    ·exact IsV.mk (w := w)
   ·intro A w cx hO hD
    have e56 := evD (hD 15 (by kernel_rfl) 56 rfl)
    clear hD hO
    refine hdV rfl ?_ rfl rfl ?_ ?_
    rotate_left 1
    ·simp [go_sem, e56, cx, HL_.out w cx, hwo, q2, q3, q4, hn0, hn0', hjm2, hj0]
     try with_reducible rfl
    ·exact IsV.mk (w := w)
   intro u wx hC hF
   obtain ⟨f0, f1, f2, f3, f4, f5, f6, f7, f8, f9, f10, f11, f12, f13, f14, f15, f16, f17, _⟩ := hF
   have g0 : u 0 = _ := f0
   have g1 : u 1 = _ := f1
   have g2 : u 2 = _ := f2
   have g3 : u 3 = _ := f3
   have g4 : u 4 = _ := f4
   have g5 : u 5 = _ := f5
   have g6 : u 6 = _ := f6
   have g7 : u 7 = _ := f7
   have g8 : u 8 = _ := f8
   have g9 : u 9 = _ := f9
   have g10 : u 10 = _ := f10
   have g11 : u 11 = _ := f11
   have g12 : u 12 = _ := f12
   have g13 : u 13 = _ := f13
   have g14 : u 14 = _ := f14
   have g15 : u 15 = _ := f15
   have g16 : u 16 = _ := f16
   have g17 : u 17 = _ := f17
   simp only [fPut, Nat.zero_add, Nat.reduceAdd, g0, g1, g2, g3, g4, g5, g6, g7, g8, g9, g10, g11, g12, g13, g14, g15, g16, g17, Act.put, List.setIfInBounds_toArray, List.set_cons_zero, List.set_cons_succ, List.length_cons, List.length_nil, List.drop_succ_cons, List.drop_zero]
   clear g0 g1 g2 g3 g4 g5 g6 g7 g8 g9 g10 g11 g12 g13 g14 g15 g16 g17 f0 f1 f2 f3 f4 f5 f6 f7 f8 f9 f10 f11 f12 f13 f14 f15 f16 f17
   have HE4 := hid (HE.out.trans hC)
   have he4_ := hid (show Ext wr wx from hC)
   clear hC x_of x_og x_12 x_3g
   go_wp2_with (at_builtin; refine hif_append rfl _ _ rfl Y (HE4.out.trans (by exact exP)) (Nat.le_refl _) (by have h1 := HE4.out.size; simp; omega) rfl (HO.out.of_ext (Ext.alloc (show Ext wr _ from he4_.out) _)) _ 1 1 rfl [qv o] rfl (hblk_news1 (Blk.new _ _ rfl (by simp))) (by have := HJm.out; simp; omega) ?_; rintro v9 r9 hv9; have HV9 := hid hv9; clear hv9)
   go_roundw
   case rel => exact ⟨jq, hslot_next HJq.out HJm.out, hval_next HJq.out, hid (by rw [HJq.out, htake_snoc _ _ _ HOj.out, List.map_append]; exact HV9.out), hid ⟨r9, rfl⟩⟩
   case measure => exact hmeas_next' HJm.out HJq.out
  ·have hjn : j = 3 := by have := HJn.out; omega
   have hjm2 : ¬ (j : Int) < (3 : Int) := by omega
   clear hjm
   subst hjn
   obtain ⟨ca, cc, rfl⟩ := Own.shape HO.out
   have hjl : (([o0, o1, o2].take 3).map qv).length = 3 := by simp
   rw [hjl] at HO ⊢
   have h10 := HB_b10.out.of HE.out
   have z0 := (h10).2.2 0 _ rfl
   have z1 := (h10).2.2 1 _ rfl
   have z2 := (h10).2.2 2 _ rfl
   have z3 := (h10).2.2 3 _ rfl
   have z4 := (h10).2.2 4 _ rfl
   have z5 := (h10).2.2 5 _ rfl
   have z6 := (h10).2.2 6 _ rfl
   have zf := (h10).2.1
   have zg := (h10).1
   clear h10 hjl
   go_wp2_with fail
   refine (wmake_any (K := hpK 3 8 1 dur chk381) (w := wr) (P := fun b => b = 0 ∨ (w2.heap.size ≤ b ∧ b < wr.heap.size)) (fun b h => by rcases h with rfl | h; exact Nat.lt_of_lt_of_le HSz.out (HwY.out.trans HE.out).size; exact h.2) none 0 (McR.imp (HMY.out.of HE.out).bnd (fun b h => .inr h)) (cvs := [o0, o1, o2].map qv) (cs := cs20 dur n [o0, o1, o2]) (Sp.imp (Sp.bnd (Sp.own (P := fun b => Y.heap.size ≤ b) (ifE_len _) HO.out (fun b h => h))) (fun b h => .inr ⟨by have h1 : Y.heap.size ≤ b := h.1; have := HNY.out; omega, h.2⟩)) (by rw [cs20_len, List.length_map]) (fun i cv c e1 e2 => ?_) (by rw [cs20_len]; exact (show 0 < 3 ∧ 3 ≤ 1000 from ⟨by decide, by decide⟩)) (by rw [cs20_len]; exact (show 3 ≤ 3 from Nat.le_refl 3)) hGd0).mono ?_
   ·rw [HQv.out] at e1
    exact cs20_R (HS.out.of (HwY.out.trans HE.out)) (.inl rfl) HF.out HOf.out dur i cv c e1 e2
   rintro e w6 ⟨v', rfl, he, hv⟩
   have HV := hid hv
   obtain ⟨pa', va', fa', la', sa', ta', ba', pn', pc', vn', vc', fn', fc', ln', lc', sn', sc', tn', tc', bn', bc', rfl, -⟩ := hv
   have HE6 := hid he
   have h6 := HB6.out.of (HE.out.trans he)
   clear he z0 z1 z2 z3 z4 z5 z6 zf zg
   have q0 := (h6).2.2 0 _ rfl
   have q1 := (h6).2.2 1 _ rfl
   have q2 := (h6).2.2 2 _ rfl
   have q3 := (h6).2.2 3 _ rfl
   have q4 := (h6).2.2 4 _ rfl
   have q5 := (h6).2.2 5 _ rfl
   have q6 := (h6).2.2 6 _ rfl
   have q7 := (h6).2.2 7 _ rfl
   have q8 := (h6).2.2 8 _ rfl
   have qf := (h6).2.1
   have qg := (h6).1
   clear h6
   (repeat (first | go_values | go_skip | go_guarded | go_step | go_upon | (simp only [Int.not_lt, Int.not_le] at *; go_simp) | (go_ite <;> go_prune <;> (try go_simp))))
   refine bodyPost_ret (v := .tuple #[.agg #[.slice pa' pn' pc', .slice va' vn' vc', .slice fa' fn' fc', .slice la' ln' lc', .map none, .slice sa' sn' sc', .int .i64 0, .slice ta' tn' tc', .slice ba' bn' bc'], .bool true]) (by simp [results, Tryz.results20, go_sem, q0, q1, q2, q3, q4, q5, q6, q7, q8, qf, qg]) rfl ⟨_, rfl, ?_⟩
   generalize hZ_ : World.alloc _ _ = Z
   have hgz : GrL [b6] w6 Z := by rw [← hZ_]; exact glP
   clear hZ_ q0 q1 q2 q3 q4 q5 q6 q7 q8 qf qg
   have hny := HNY.out
   have hs6 := HE6.out.size
   have hsr := HE.out.size
   have hv := HV.out
   have hsz := HSz.out
   refine ⟨((HwY.out.trans HE.out).trans HE6.out).grl hgz (by simp; omega), WV.imp (WV.kp hv (hgz.kp (fun g hg h => ?_))) (fun b h => ?_)⟩
   ·simp only [List.mem_cons, List.not_mem_nil, or_false] at hg
    subst hg
    rcases h with (h | h) | h
    ·omega
    ·have := h.1; omega
    ·omega
   ·rcases h with (h | h) | h
    ·exact .inl h
    ·have := h.1; exact .inr (by omega)
    ·exact .inr (by omega)
end
end Go.Proofs.YtiacdohaiidehaaGreatDoor
