/- The world of tasks (simulcast/task): what lies in memory, over any code; dead, stopped, takes. -/
import Derived.Test.YtiacdohaiidehaaGreatDoorPk15
namespace Go.Proofs.YtiacdohaiidehaaGreatDoor
set_option linter.unusedSimpArgs false
set_option linter.unusedVariables false
open Go.RowKit Go.Maps
def AgP (P : Nat → Prop) (w w' : World) : Prop := w.heap.size ≤ w'.heap.size ∧ ∀ b, P b → b < w.heap.size → w'.heap[b]? = w.heap[b]?
theorem KpB.agp {P : Nat → Prop} {w w' : World} (h : KpB P w w') : AgP P w w' := ⟨h.1, h.2.1⟩
structure CodeK where
 T : TypeId
 F : FuncId
 hT : CodeT T F
 C : Type
 R : World → (Nat → Prop) → Value → C → Prop
 st : ∀ {w w' : World} {P : Nat → Prop} {v : Value} {c : C}, R w P v c → AgP P w w' → R w' P v c
 imp : ∀ {w : World} {P P' : Nat → Prop} {v : Value} {c : C}, R w P v c → (∀ b, P b → P' b) → R w P' v c
 bnd : ∀ {w : World} {P : Nat → Prop} {v : Value} {c : C}, R w P v c → R w (fun b => P b ∧ b < w.heap.size) v c
 Gd : Gt → Prop
 nx : C → Gt → C × A8 × Bool
 ok : ∀ {w : World} {P : Nat → Prop} {v : Value} {c : C}, (∀ b, P b → b < w.heap.size) → R w P v c → ∀ g, Gd g →
  Calls Tryz.prog F #[v, .agg (gtE g).toArray] w fun e w' => ∃ v', e = .returned (.tuple #[.iface T v', .agg (a8E (nx c g).2.1).toArray, .bool (nx c g).2.2]) ∧ Ext w w' ∧ R w' (fun b => P b ∨ w.heap.size ≤ b) v' (nx c g).1
structure Tk (C : Type) where
 c : C
 a : A8
 d : Bool
 g : List Gt
abbrev RTk := Value × (A8 × Bool) × (Option Addr × Nat × Nat)
def tkE (T : TypeId) (r : RTk) : List Value := tkL (.iface T r.1) (nxV T r.1 r.2.1.2) (if r.2.1.2 = true then a8Z else r.2.1.1) r.2.2.1 r.2.2.2.1 r.2.2.2.2
theorem tkE_len (T : TypeId) (r : RTk) : (tkE T r).length = 11 := rfl
theorem tkE_one (T : TypeId) (r : RTk) : ∀ u ∈ tkE T r, u.oneCell' = true := by
 intro u hu
 simp only [tkE, tkL, List.mem_cons, List.not_mem_nil, or_false] at hu
 rcases hu with rfl | rfl | rfl | rfl | rfl | rfl | rfl | rfl | rfl | rfl | rfl <;> first | rfl | (unfold nxV; split <;> rfl)
def blE (b : Bool) : List Value := [.bool b]
theorem blE_len (b : Bool) : (blE b).length = 1 := rfl
def TkR (K : CodeK) (w : World) (P : Nat → Prop) (r : RTk) (t : Tk K.C) : Prop := r.2.1 = (t.a, t.d) ∧ K.R w P r.1 t.c ∧ Sp w P 4 gtE (.slice r.2.2.1 r.2.2.2.1 r.2.2.2.2) t.g
def TsR (K : CodeK) (w : World) (P : Nat → Prop) (v : Value) (l : List (Tk K.C)) : Prop := ∃ raw : List RTk, Sp w P 11 (tkE K.T) v raw ∧ raw.length = l.length ∧ ∀ (i : Nat) (r : RTk) (t : Tk K.C), raw[i]? = some r → l[i]? = some t → TkR K w P r t
section
variable {K : CodeK} {w w' : World} {P : Nat → Prop} {v : Value} {r : RTk} {t : Tk K.C} {l : List (Tk K.C)}
theorem TkR.kp (h : TkR K w P r t) (k : KpB P w w') : TkR K w' P r t := ⟨h.1, K.st h.2.1 k.agp, h.2.2.kp gtE_len k⟩
theorem TkR.imp (h : TkR K w P r t) {P' : Nat → Prop} (hp : ∀ b, P b → P' b) : TkR K w P' r t := ⟨h.1, K.imp h.2.1 hp, h.2.2.imp hp⟩
theorem TkR.bnd (h : TkR K w P r t) : TkR K w (fun b => P b ∧ b < w.heap.size) r t := ⟨h.1, K.bnd h.2.1, h.2.2.bnd⟩
theorem TsR.kp (h : TsR K w P v l) (k : KpB P w w') : TsR K w' P v l := by
 obtain ⟨raw, h1, h2, h3⟩ := h
 exact ⟨raw, h1.kp (tkE_len _) k, h2, fun i r t e1 e2 => (h3 i r t e1 e2).kp k⟩
theorem TsR.of (h : TsR K w P v l) (he : Ext w w') : TsR K w' P v l := h.kp (KpB.of_ext he)
theorem TsR.imp (h : TsR K w P v l) {P' : Nat → Prop} (hp : ∀ b, P b → P' b) : TsR K w P' v l := by
 obtain ⟨raw, h1, h2, h3⟩ := h
 exact ⟨raw, h1.imp hp, h2, fun i r t e1 e2 => (h3 i r t e1 e2).imp hp⟩
theorem TsR.bnd (h : TsR K w P v l) : TsR K w (fun b => P b ∧ b < w.heap.size) v l := by
 obtain ⟨raw, h1, h2, h3⟩ := h
 exact ⟨raw, h1.bnd, h2, fun i r t e1 e2 => (h3 i r t e1 e2).bnd⟩
theorem TsR.len {a : Option Addr} {n c : Nat} (h : TsR K w P (.slice a n c) l) : n = l.length := by
 obtain ⟨raw, h1, h2, _⟩ := h
 obtain ⟨a', c', hv, _⟩ := h1.1
 simp only [Value.slice.injEq] at hv
 omega
theorem Sp.lenN {α : Type} {size : Nat} {enc : α → List Value} {a : Option Addr} {n c : Nat} {l : List α} (h : Sp w P size enc (.slice a n c) l) : n = l.length := by
 obtain ⟨a', c', hv, _⟩ := h.1
 simp only [Value.slice.injEq] at hv
 omega
theorem TsR.at {a : Option Addr} {n c : Nat} (h : TsR K w P (.slice a n c) l) {i : Nat} (ht : l[i]? = some t) : ∃ (r : RTk) (b o : Nat), a = some ⟨b, o, none⟩ ∧ b < w.heap.size ∧ P b ∧ TkR K w P r t ∧ ∀ j, j < 11 → w.cell? ⟨b, o + i * 11 + j, none⟩ = (tkE K.T r)[j]? := by
 obtain ⟨raw, h1, h2, h3⟩ := h
 have hi := (List.getElem?_eq_some_iff.1 ht).1
 obtain ⟨r, hr⟩ : ∃ r, raw[i]? = some r := ⟨raw[i]'(by omega), List.getElem?_eq_getElem _⟩
 obtain ⟨hn, b, o, rfl, hb, hc⟩ := h1.1.at hr
 exact ⟨r, b, o, rfl, hb, h1.2 (by intro h0; rw [h0] at hr; simp at hr) _ _ _ rfl, h3 i _ t hr ht, hc⟩
end
def WR (K : CodeK) (w : World) (P : Nat → Prop) (pv vv fv lv sv tv bv : Value) (m : Mc) (ts : List (Tk K.C)) (bs : List Bool) : Prop := McR w P pv vv fv lv sv m ∧ TsR K w P tv ts ∧ Sp w P 1 blE bv bs
section
variable {w w' : World} {P : Nat → Prop} {pv vv fv lv sv : Value} {m : Mc}
theorem McR.bnd (h : McR w P pv vv fv lv sv m) : McR w (fun b => P b ∧ b < w.heap.size) pv vv fv lv sv m := ⟨⟨h.1.1.bnd, h.1.2.bnd⟩, h.2.1.bnd, h.2.2.bnd⟩
variable {K : CodeK} {tv bv : Value} {ts : List (Tk K.C)} {bs : List Bool}
theorem WR.kp (h : WR K w P pv vv fv lv sv tv bv m ts bs) (k : KpB P w w') : WR K w' P pv vv fv lv sv tv bv m ts bs := ⟨h.1.kp k, h.2.1.kp k, h.2.2.kp blE_len k⟩
theorem WR.of (h : WR K w P pv vv fv lv sv tv bv m ts bs) (he : Ext w w') : WR K w' P pv vv fv lv sv tv bv m ts bs := h.kp (KpB.of_ext he)
theorem WR.imp (h : WR K w P pv vv fv lv sv tv bv m ts bs) {P' : Nat → Prop} (hp : ∀ b, P b → P' b) : WR K w P' pv vv fv lv sv tv bv m ts bs := ⟨h.1.imp hp, h.2.1.imp hp, h.2.2.imp hp⟩
theorem WR.bnd (h : WR K w P pv vv fv lv sv tv bv m ts bs) : WR K w (fun b => P b ∧ b < w.heap.size) pv vv fv lv sv tv bv m ts bs := ⟨h.1.bnd, h.2.1.bnd, h.2.2.bnd⟩
end
theorem kp_end {P : Nat → Prop} {w V w2 Z : World} (hP : ∀ b, P b → b < w.heap.size) {L : List Nat} (hL : ∀ g ∈ L, w.heap.size ≤ g ∧ (g < V.heap.size ∨ w2.heap.size ≤ g)) (hG : GrL L w2 Z) : KpB (fun b => (P b ∨ V.heap.size ≤ b) ∧ b < w2.heap.size) w2 Z :=
 hG.kp fun g hg h => by
  have h1 := hL g hg
  obtain ⟨h2, h3⟩ := h
  rcases h2 with h2 | h2
  ·have := hP g h2; omega
  ·omega
section
variable (pa va fa la sa ta ba : Option Addr) (pn pc vn vc fn fc ln lc sn sc tn tc bn bc : Nat) (q : Option Nat) (cr : Int)
set_option maxHeartbeats 1000000 in
theorem wdead_any (w : World) : Calls Tryz.prog 78 #[.agg #[.slice pa pn pc, .slice va vn vc, .slice fa fn fc, .slice la ln lc, .map q, .slice sa sn sc, .int .i64 cr, .slice ta tn tc, .slice ba bn bc]] w fun e w' => e = .returned (.bool (decide (vn = 0))) ∧ ∃ r, w' = ext w r := by
 have hb := hid (show ((vn : Int) == 0) = decide (vn = 0) by by_cases h : vn = 0 <;> simp [h])
 go_enter Tryz.func78, Tryz.ntmps78
 go_wp2_with (go_call (mcsize_any pa va fa la sa pn pc vn vc fn fc ln lc sn sc q cr _) as e w' ⟨rfl, r1, rfl⟩)
 go_ret
 exact ⟨ret_bool hb.out, by exact exP⟩
end
section
variable {w : World} {P : Nat → Prop} {pa va fa la sa ta ba : Option Addr} {pn pc vn vc fn fc ln lc sn sc tn tc bn bc : Nat} (q : Option Nat) (cr : Int)
set_option maxHeartbeats 1000000 in
theorem wstopped_any {bs : List Bool} (h : Sp w P 1 blE (.slice ba bn bc) bs) (i : Nat) (hi : bs.length ≤ 1000) : Calls Tryz.prog 56 #[.agg #[.slice pa pn pc, .slice va vn vc, .slice fa fn fc, .slice la ln lc, .map q, .slice sa sn sc, .int .i64 cr, .slice ta tn tc, .slice ba bn bc], .int .i64 i] w fun e w' => e = .returned (.bool (bs[i]?.getD false)) ∧ ∃ r, w' = ext w r := by
 have hn := h.lenN
 by_cases hl : i < bs.length
 ·have hx : bs[i]? = some (bs[i]) := List.getElem?_eq_getElem hl
  obtain ⟨y, hy⟩ : ∃ y, y = bs[i] := ⟨_, rfl⟩
  rw [← hy] at hx
  have hg := hid (show bs[i]?.getD false = y by rw [hx]; rfl)
  obtain ⟨hq, b, o, rfl, hb, hc⟩ := h.1.at hx
  have c0 := hc 0 (by omega)
  simp [blE] at c0
  have hil : (i : Int) < (bn : Int) := by omega
  clear hq hc hy hx hl hn h hi
  go_enter Tryz.func56, Tryz.ntmps56
  go_wp2_with fail
  go_ret
  exact ⟨ret_bool hg.out.symm, by exact exP⟩
 ·have hg := hid (show bs[i]?.getD false = false by rw [List.getElem?_eq_none (by omega)]; rfl)
  have hil : ¬ (i : Int) < (bn : Int) := by omega
  have hil2 : (bn : Int) ≤ (i : Int) := by omega
  clear hl hn h hi
  go_enter Tryz.func56, Tryz.ntmps56
  go_wp2_with fail
  go_ret
  exact ⟨ret_bool hg.out.symm, by exact exP⟩
set_option maxRecDepth 100000 in
set_option maxHeartbeats 1000000 in
theorem wtakes_any {K : CodeK} {ts : List (Tk K.C)} (h : TsR K w P (.slice ta tn tc) ts) {bs : List Bool} (hbs : Sp w P 1 blE (.slice ba bn bc) bs) (hbl : bs.length ≤ 1000) (t i : Nat) (hti : t = i + 1) (k : Tk K.C) (hk : ts[i]? = some k) (htl : ts.length ≤ 1000) : Calls Tryz.prog 80 #[.agg #[.slice pa pn pc, .slice va vn vc, .slice fa fn fc, .slice la ln lc, .map q, .slice sa sn sc, .int .i64 cr, .slice ta tn tc, .slice ba bn bc], .int .i64 t] w fun e w' => e = .returned (.bool (!bs[i]?.getD false && !k.d)) ∧ ∃ r, w' = ext w r := by
 have hn := h.len
 have hi := (List.getElem?_eq_some_iff.1 hk).1
 have h1 : 1 ≤ (t : Int) := by omega
 have h2 : (t : Int) ≤ (tn : Int) := by omega
 have hw1 : wrap64 ((t : Int) - 1) = (i : Int) := by rw [show (t : Int) - 1 = (i : Int) by omega]; exact IntWalk.wrap64_in _ (by omega)
 have hil : (i : Int) < (tn : Int) := by omega
 obtain ⟨r, b, o, rfl, hb, _, hr, hc⟩ := h.at hk
 obtain ⟨cv, ⟨a0, d⟩, ga, gn, gc⟩ := r
 obtain ⟨hd, -, -⟩ := hr
 dsimp only at hd hc
 cases hd
 obtain ⟨n0, hn0⟩ : ∃ n, n = nxV K.T cv k.d := ⟨_, rfl⟩
 obtain ⟨c0, hc0⟩ : ∃ n, n = Value.iface K.T cv := ⟨_, rfl⟩
 have HNx := hid (show (k.d = true ∧ n0 = .nilFunc) ∨ (k.d = false ∧ ∃ f x y, n0 = .func f x y) from by
  rw [hn0]; unfold nxV
  cases k.d
  ·exact .inr ⟨rfl, _, _, _, rfl⟩
  ·exact .inl ⟨rfl, rfl⟩)
 obtain ⟨a', ha'⟩ : ∃ x, x = if k.d = true then a8Z else k.a := ⟨_, rfl⟩
 unfold tkE at hc
 dsimp only at hc
 rw [← hn0, ← hc0, ← ha'] at hc
 obtain ⟨p1, p2, ⟨p3, p4, p5⟩, p6, p7, p8⟩ := a'
 have x0 := hc 0 (by omega)
 have x1 := hc 1 (by omega)
 have x2 := hc 2 (by omega)
 have x3 := hc 3 (by omega)
 have x4 := hc 4 (by omega)
 have x5 := hc 5 (by omega)
 have x6 := hc 6 (by omega)
 have x7 := hc 7 (by omega)
 have x8 := hc 8 (by omega)
 have x9 := hc 9 (by omega)
 have x10 := hc 10 (by omega)
 simp [tkL] at x0 x1 x2 x3 x4 x5 x6 x7 x8 x9 x10
 obtain ⟨kd, hkd⟩ : ∃ x, x = k.d := ⟨_, rfl⟩
 rw [← hkd] at HNx ⊢
 obtain ⟨sv, hsv⟩ : ∃ x, x = bs[i]?.getD false := ⟨_, rfl⟩
 have HSt := hid (fun (w' : World) (he : Ext w w') => wstopped_any (pa := pa) (va := va) (fa := fa) (la := la) (sa := sa) (ta := some ⟨b, o, none⟩) (ba := ba) (pn := pn) (pc := pc) (vn := vn) (vc := vc) (fn := fn) (fc := fc) (ln := ln) (lc := lc) (sn := sn) (sc := sc) (tn := tn) (tc := tc) (bn := bn) (bc := bc) q cr (w := w') (hbs.of blE_len he) i hbl)
 rw [← hsv] at HSt ⊢
 clear hc hn hi h hbs hbl hti hk htl hn0 hc0 ha' hkd hsv
 cases sv
 ·go_enter Tryz.func80, Tryz.ntmps80
  go_wp2_with (go_call (HSt.out _ (by exact exP)) as e w' ⟨rfl, r1, rfl⟩)
  refine (tdone_any c0 n0 kd HNx.out ⟨p1, p2, (p3, p4, p5), (p6, p7, p8)⟩ ga gn gc _).mono ?_
  rintro e w' ⟨rfl, r2, rfl⟩
  go_wp2_with fail
  go_ret
  exact ⟨ret_bool (by simp), by exact exP⟩
 ·go_enter Tryz.func80, Tryz.ntmps80
  go_wp2_with fail
  refine (HSt.out _ (by exact exP)).mono ?_
  rintro e w' ⟨rfl, r1, rfl⟩
  (repeat (first | go_values | go_skip | go_guarded | go_step | go_upon | (simp only [Int.not_lt, Int.not_le] at *; go_simp) | (go_ite <;> go_prune <;> (try go_simp))))
  go_ret
  exact ⟨ret_bool (by simp), by exact exP⟩
end
end Go.Proofs.YtiacdohaiidehaaGreatDoor
