/- The memory (simulcast/memory): histories and views. -/
import Derived.Test.YtiacdohaiidehaaGreatDoorPk04
import Derived.Test.YtiacdohaiidehaaGreatDoorPk05
import Derived.Laws.CopyOwn
namespace Go.Proofs.YtiacdohaiidehaaGreatDoor
set_option linter.unusedSimpArgs false
set_option linter.unusedVariables false
open Go.RowKit Go.Maps
structure Me where
 pl : List (List Mg)
 vs : List (Int → Nat)
abbrev RHs := Option Addr × Nat × Nat
abbrev hsE (h : RHs) : List Value := [.slice h.1 h.2.1 h.2.2]
theorem hsE_len (h : RHs) : (hsE h).length = 1 := rfl
abbrev mqE (q : Option Nat) : List Value := [.map q]
theorem mqE_len (q : Option Nat) : (mqE q).length = 1 := rfl
def VsR (w : World) (P : Nat → Prop) (vv : Value) (vs : List (Int → Nat)) : Prop := ∃ qs : List (Option Nat), Sp w P 1 mqE vv qs ∧ qs.length = vs.length ∧ ∀ (i : Nat) (q : Option Nat) (f : Int → Nat), qs[i]? = some q → vs[i]? = some f → VwR w P (.map q) f
def PsR (w : World) (P : Nat → Prop) (pv : Value) (pl : List (List Mg)) : Prop := ∃ hs : List RHs, Sp w P 1 hsE pv hs ∧ hs.length = pl.length ∧ ∀ (i : Nat) (h : RHs) (l : List Mg), hs[i]? = some h → pl[i]? = some l → HsR w P (.slice h.1 h.2.1 h.2.2) l
def MeR (w : World) (P : Nat → Prop) (pv vv : Value) (m : Me) : Prop := PsR w P pv m.pl ∧ VsR w P vv m.vs
abbrev memD : List TypeId := [179, 174, 181]
section
variable {w w' : World} {P : Nat → Prop} {pv vv : Value} {m : Me} {pl : List (List Mg)} {vs : List (Int → Nat)}
theorem VsR.kp (h : VsR w P vv vs) (k : KpB P w w') : VsR w' P vv vs := by
 obtain ⟨qs, h1, h2, h3⟩ := h
 exact ⟨qs, h1.kp mqE_len k, h2, fun i q f a b => (h3 i q f a b).kp k⟩
theorem PsR.kp (h : PsR w P pv pl) (k : KpB P w w') : PsR w' P pv pl := by
 obtain ⟨hs, h1, h2, h3⟩ := h
 exact ⟨hs, h1.kp hsE_len k, h2, fun i q f a b => (h3 i q f a b).kp k⟩
theorem MeR.kp (h : MeR w P pv vv m) (k : KpB P w w') : MeR w' P pv vv m := ⟨h.1.kp k, h.2.kp k⟩
theorem VsR.of (h : VsR w P vv vs) (he : Ext w w') : VsR w' P vv vs := h.kp (KpB.of_ext he)
theorem VsR.imp (h : VsR w P vv vs) {P' : Nat → Prop} (hp : ∀ b, P b → P' b) : VsR w P' vv vs := by
 obtain ⟨qs, h1, h2, h3⟩ := h
 exact ⟨qs, h1.imp hp, h2, fun i q f a b => (h3 i q f a b).imp hp⟩
theorem VsR.bnd (h : VsR w P vv vs) : VsR w (fun b => P b ∧ b < w.heap.size) vv vs := by
 obtain ⟨qs, h1, h2, h3⟩ := h
 exact ⟨qs, h1.bnd, h2, fun i q f a b => (h3 i q f a b).bnd⟩
theorem VsR.shape (h : VsR w P vv vs) : ∃ a c, vv = .slice a vs.length c ∧ vs.length ≤ c ∧ (a = none → vs.length = 0) := by
 obtain ⟨qs, h1, h2, _⟩ := h
 rw [← h2]; exact h1.shape
theorem PsR.of (h : PsR w P pv pl) (he : Ext w w') : PsR w' P pv pl := h.kp (KpB.of_ext he)
theorem PsR.imp (h : PsR w P pv pl) {P' : Nat → Prop} (hp : ∀ b, P b → P' b) : PsR w P' pv pl := by
 obtain ⟨hs, h1, h2, h3⟩ := h
 exact ⟨hs, h1.imp hp, h2, fun i q f a b => (h3 i q f a b).imp hp⟩
theorem PsR.bnd (h : PsR w P pv pl) : PsR w (fun b => P b ∧ b < w.heap.size) pv pl := by
 obtain ⟨hs, h1, h2, h3⟩ := h
 exact ⟨hs, h1.bnd, h2, fun i q f a b => (h3 i q f a b).bnd⟩
theorem PsR.shape (h : PsR w P pv pl) : ∃ a c, pv = .slice a pl.length c ∧ pl.length ≤ c ∧ (a = none → pl.length = 0) := by
 obtain ⟨qs, h1, h2, _⟩ := h
 rw [← h2]; exact h1.shape
theorem MeR.of (h : MeR w P pv vv m) (he : Ext w w') : MeR w' P pv vv m := ⟨h.1.of he, h.2.of he⟩
theorem MeR.imp (h : MeR w P pv vv m) {P' : Nat → Prop} (hp : ∀ b, P b → P' b) : MeR w P' pv vv m := ⟨h.1.imp hp, h.2.imp hp⟩
theorem MeR.bnd (h : MeR w P pv vv m) : MeR w (fun b => P b ∧ b < w.heap.size) pv vv m := ⟨h.1.bnd, h.2.bnd⟩
end
theorem mthread_any (pa va : Option Addr) (pn pc vn vc : Nat) (t : Int) (w : World) : Calls Tryz.prog 159 #[.agg #[.slice pa pn pc, .slice va vn vc], .int .i64 t] w fun e w' => e = .returned (.bool (decide (1 ≤ t) && decide (t ≤ vn))) ∧ ∃ r, w' = ext w r := by
 by_cases h1 : 1 ≤ t
 ·by_cases h2 : t ≤ vn
  all_goals
   go_enter Tryz.func159, Tryz.ntmps159
   go_wp2_with fail
   go_ret
   exact ⟨by simp [h1, h2], by exact exP⟩
 ·go_enter Tryz.func159, Tryz.ntmps159
  go_wp2_with fail
  go_ret
  exact ⟨by have e : decide (1 ≤ t) = false := decide_eq_false (by omega); rw [e]; rfl, by exact exP⟩
theorem mplace_any (pa va : Option Addr) (pn pc vn vc : Nat) (t : Int) (w : World) : Calls Tryz.prog 102 #[.agg #[.slice pa pn pc, .slice va vn vc], .int .i64 t] w fun e w' => e = .returned (.bool (decide (0 ≤ t) && decide (t < pn))) ∧ ∃ r, w' = ext w r := by
 by_cases h1 : 0 ≤ t
 ·by_cases h2 : t < pn
  all_goals
   go_enter Tryz.func102, Tryz.ntmps102
   go_wp2_with fail
   go_ret
   exact ⟨by simp [h1, h2], by exact exP⟩
 ·go_enter Tryz.func102, Tryz.ntmps102
  go_wp2_with fail
  go_ret
  exact ⟨by have e : decide (0 ≤ t) = false := decide_eq_false (by omega); rw [e]; rfl, by exact exP⟩
theorem msize_any (pa va : Option Addr) (pn pc vn vc : Nat) (w : World) : Calls Tryz.prog 97 #[.agg #[.slice pa pn pc, .slice va vn vc]] w fun e w' => e = .returned (.tuple #[.int .i64 vn, .int .i64 pn]) ∧ ∃ r, w' = ext w r := by
 go_enter Tryz.func97, Tryz.ntmps97
 go_wp2_with fail
 refine region_ext (by kernel_rfl) (by kernel_rfl) ?_
 repeat (go_big_quiet_step (fail))
 refine wpQuiet_nil ?_
 rintro _ ⟨r1, rfl⟩
 go_wp2_with fail
 go_ret2
 exact ⟨rfl, by exact exP⟩
theorem mwrong_any (pa va : Option Addr) (pn pc vn vc : Nat) (t at_ : Int) (h1 : 1 ≤ t ∧ t ≤ vn) (h2 : 0 ≤ at_ ∧ at_ < pn) (w : World) : Calls Tryz.prog 139 #[.agg #[.slice pa pn pc, .slice va vn vc], .int .i64 t, .int .i64 at_] w fun e w' => e = .returned (.int .i64 0) ∧ ∃ r, w' = ext w r := by
 have e1 := hid (show (decide (1 ≤ t) && decide (t ≤ vn)) = true by simp [h1])
 have e2 := hid (show (decide (0 ≤ at_) && decide (at_ < pn)) = true by simp [h2])
 clear h1 h2
 go_enter Tryz.func139, Tryz.ntmps139
 go_wp2_with (first
  | (go_call (mthread_any pa va pn pc vn vc t _) as e w' ⟨rfl, r1, rfl⟩; rw [e1.out])
  | (go_call (mplace_any pa va pn pc vn vc at_ _) as e w' ⟨rfl, r2, rfl⟩; rw [e2.out]))
 go_ret
 exact ⟨rfl, by exact exP⟩
theorem blk_heap {w : World} {g : Nat} {cs : Array Value} {t : TypeId} (hg : w.heap[g]? = some (.cells cs t (0, 0))) : Blk w g cs.toList := by
 refine ⟨(Array.getElem?_eq_some_iff.1 hg).1, fun i => ?_, fun i u hu => ?_⟩
 ·simp [World.frozen?, hg]
 ·simp [World.cell?, hg]; simpa using hu
theorem copy_one {α : Type} {enc : α → List Value} (henc : ∀ x, (enc x).length = 1) (hone : ∀ x, ∀ u ∈ enc x, u.oneCell' = true) {P : Program} {w : World} (dT sT ty : TypeId)
 (elem : TypeId) (hu : P.underlying dT = some (.slice elem)) (hsz : (P.info? elem).map (·.size) = some 1)
 (g n : Nat) {sa : Option Addr} {c m : Nat} {l : List α} (hsl : Sl w 1 enc (.slice sa n c) l) (hn : 0 < n)
 (cur : Array Value) (t : TypeId) (hg : w.heap[g]? = some (.cells cur t (0, 0))) (hcur : cur.size = n) :
 ∃ w', (Builtin.copy_ #[dT, sT] ty #[.slice (some ⟨g, 0, none⟩) n m, .slice sa n c]).run P w = .ok (.int .i64 n) w' ∧ Grn g w w' ∧ Blk w' g (l.flatMap enc) ∧ ∀ D, TyK D w w' := by
 have hln : l.length = n := by obtain ⟨a', c', hv, _⟩ := hsl; simp only [Value.slice.injEq] at hv; exact hv.2.1.symm
 have hfl : (l.flatMap enc).length = n := by rw [flat_len henc, hln]; omega
 cases sa with
 | none =>
  obtain ⟨a', c', hv, _, hq⟩ := hsl
  obtain ⟨b, o', he, _⟩ := hq (by intro h0; rw [h0] at hln; simp at hln; omega)
  rw [he] at hv; simp at hv
 | some ad =>
  have hrun := run_copy_row (P := P) w dT sT ty elem g 0 n m ad n c cur t (l.flatMap enc) hu hsz hg (by rw [hfl]; simp) (Sl.flat henc (by omega) hsl) (by omega) (fun v hv => by obtain ⟨x, _, hx⟩ := List.mem_flatMap.1 hv; exact hone x v hx)
  rw [hfl] at hrun
  refine ⟨_, hrun, ⟨rfl, rfl, rfl, by simp [World.setRow], fun k hk hne => setRow_other w g k _ (by intro he; exact hne (by rw [he]))⟩, ?_, fun D => TyK.refl.setRow _ _⟩
  have hh := blk_heap (setRow_heap w g cur (cur.toList.take 0 ++ l.flatMap enc ++ cur.toList.drop (0 + n)).toArray t (0, 0) hg)
  have he : (cur.toList.take 0 ++ l.flatMap enc ++ cur.toList.drop (0 + n)) = l.flatMap enc := by
   rw [List.take_zero, List.nil_append, List.drop_eq_nil_of_le (by simp; omega), List.append_nil]
  rw [he] at hh ⊢
  simpa using hh
set_option maxHeartbeats 1000000 in
theorem mseen_any {w : World} {P : Nat → Prop} (pa : Option Addr) (pn pc : Nat) {va : Option Addr} {vn vc : Nat} {vs : List (Int → Nat)} (h : VsR w P (.slice va vn vc) vs) (t i : Nat) (ht : t = i + 1) (f : Int → Nat) (hf : vs[i]? = some f) (hvn : vn ≤ 1000) :
 Calls Tryz.prog 154 #[.agg #[.slice pa pn pc, .slice va vn vc], .int .i64 t] w fun e w' => ∃ q, e = .returned (.agg #[.map q]) ∧ Ext w w' ∧ VwR w' P (.map q) f := by
 obtain ⟨qs, h1, h2, h3⟩ := h
 have hi : i < vs.length := (List.getElem?_eq_some_iff.1 hf).1
 obtain ⟨q, hq⟩ : ∃ q, qs[i]? = some q := ⟨qs[i]'(by omega), List.getElem?_eq_getElem _⟩
 obtain ⟨hvl, b, o, rfl, hb, hc⟩ := h1.1.at hq
 have c0 := hc 0 (by omega)
 simp at c0
 have HV := hid (h3 i q f hq hf)
 have e1 := hid (show (decide (1 ≤ (t : Int)) && decide ((t : Int) ≤ vn)) = true by simp; omega)
 have hw : wrap64 ((t : Int) - 1) = (i : Int) := by rw [show (t : Int) - 1 = (i : Int) by omega]; exact IntWalk.wrap64_in _ (by omega)
 have hil : (i : Int) < (vn : Int) := by omega
 clear h1 h2 h3 hq hf hc hi ht hvl
 go_enter Tryz.func154, Tryz.ntmps154
 go_wp2_with (go_call (mthread_any pa (some ⟨b, o, none⟩) pn pc vn vc t _) as e w' ⟨rfl, r1, rfl⟩; rw [e1.out])
 (repeat (first | go_values | go_skip | go_guarded | go_step | go_upon | (simp only [Int.not_lt, Int.not_le] at *; go_simp) | (go_ite <;> go_prune <;> (try go_simp))))
 exact bodyPost_ret (v := .agg #[.map q]) (by simp [results, Tryz.results154, go_sem]) rfl ⟨q, rfl, by exact exF, HV.out.of (by exact exF)⟩
set_option maxHeartbeats 1000000 in
theorem mhist_any {w : World} {P : Nat → Prop} {pa : Option Addr} {pn pc : Nat} (va : Option Addr) (vn vc : Nat) {pl : List (List Mg)} (h : PsR w P (.slice pa pn pc) pl) (i : Nat) (l : List Mg) (hl : pl[i]? = some l) (hpn : pn ≤ 5000) :
 Calls Tryz.prog 83 #[.agg #[.slice pa pn pc, .slice va vn vc], .int .i64 i] w fun e w' => ∃ a n c, e = .returned (.tuple #[.agg #[.slice a n c], .bool true]) ∧ Ext w w' ∧ HsR w' P (.slice a n c) l := by
 obtain ⟨hs, h1, h2, h3⟩ := h
 have hi : i < pl.length := (List.getElem?_eq_some_iff.1 hl).1
 obtain ⟨q, hq⟩ : ∃ q, hs[i]? = some q := ⟨hs[i]'(by omega), List.getElem?_eq_getElem _⟩
 obtain ⟨hvl, b, o, rfl, hb, hc⟩ := h1.1.at hq
 have c0 := hc 0 (by omega)
 simp at c0
 obtain ⟨q1, q2, q3⟩ := q
 dsimp only at c0
 have HV := hid (h3 i _ l hq hl)
 have e1 := hid (show (decide (0 ≤ (i : Int)) && decide ((i : Int) < pn)) = true by simp; omega)
 have hil : (i : Int) < (pn : Int) := by omega
 clear h1 h2 h3 hq hl hc hi hvl
 go_enter Tryz.func83, Tryz.ntmps83
 go_wp2_with (go_call (mplace_any (some ⟨b, o, none⟩) va pn pc vn vc i _) as e w' ⟨rfl, r1, rfl⟩; rw [e1.out])
 (repeat (first | go_values | go_skip | go_guarded | go_step | go_upon | (simp only [Int.not_lt, Int.not_le] at *; go_simp) | (go_ite <;> go_prune <;> (try go_simp))))
 exact bodyPost_ret (v := .tuple #[.agg #[.slice q1 q2 q3], .bool true]) (by simp [results, Tryz.results83, go_sem]) rfl ⟨q1, q2, q3, rfl, by exact exF, HV.out.of (by exact exF)⟩
theorem field_msg (x1 x2 x3 x4 : Int) (q : Option Nat) (w : World) : (Instr.field 181 (.agg #[.int .i64 x1, .int .u32 x2, .int .u32 x3, .int .i64 x4, .map q]) 0).run Tryz.prog w = .ok (.agg #[.int .i64 x1, .int .u32 x2, .int .u32 x3]) w := by kernel_rfl
set_option maxRecDepth 100000 in
set_option maxHeartbeats 1000000 in
theorem mlast_any {w : World} {P : Nat → Prop} {pa : Option Addr} {pn pc : Nat} (va : Option Addr) (vn vc : Nat) {pl : List (List Mg)} (h : PsR w P (.slice pa pn pc) pl) (i : Nat) (l : List Mg) (hl : pl[i]? = some l) (hpn : pn ≤ 5000) (x1 x2 x3 t : Int) (f : Int → Nat) (hm : l[l.length - 1]? = some ⟨(x1, x2, x3), t, f⟩) (hlen : l.length ≤ 1000000) :
 Calls Tryz.prog 58 #[.agg #[.slice pa pn pc, .slice va vn vc], .int .i64 i] w fun e w' => e = .returned (.tuple #[.agg #[.int .i64 x1, .int .u32 x2, .int .u32 x3], .bool true]) ∧ ∃ r, w' = ext w r := by
 have H := hid h
 have HL := hid hl
 have HM := hid hm
 have HN := hid hlen
 have hfm := field_msg
 clear h hl hm hlen
 go_enter Tryz.func58, Tryz.ntmps58
 go_wp2_with fail
 refine (mhist_any va vn vc (H.out.of (by exact exP)) i l HL.out hpn).mono ?_
 rintro e w' ⟨a, n, c, rfl, he, hh⟩
 have HE := hid (Ext.trans (show Ext w _ by exact exP) he)
 have HB := hid ((show Blk _ (w.heap.size + 1) [.int .i64 0, .int .u32 0, .int .u32 0] by exact bkP).of he)
 have HH := hid hh
 clear he hh
 go_upto_region 2 with fail
 have b0 := HB.out.2.2 0 _ rfl
 have b1 := HB.out.2.2 1 _ rfl
 have b2 := HB.out.2.2 2 _ rfl
 have bf := HB.out.2.1
 have bs := HB.out.1
 go_wp2_with fail
 refine (hlast_any (HH.out.of (by exact exP)) x1 x2 x3 t f HM.out HN.out).mono ?_
 rintro e w2 ⟨q, rfl, he, hq⟩
 clear b0 b1 b2 bf bs
 have HE2 := hid (Ext.trans (show Ext w _ by exact exP) he)
 have HB2 := hid ((show Blk _ (w.heap.size + 1) [.int .i64 0, .int .u32 0, .int .u32 0] by exact bkP).of he)
 clear he hq
 have b0 := HB2.out.2.2 0 _ rfl
 have b1 := HB2.out.2.2 1 _ rfl
 have b2 := HB2.out.2.2 2 _ rfl
 have bf := HB2.out.2.1
 have bs := HB2.out.1
 (repeat (first | go_values | go_skip | go_guarded | go_step | go_upon | (simp only [Int.not_lt, Int.not_le] at *; go_simp) | (go_ite <;> go_prune <;> (try go_simp))))
 exact bodyPost_ret (v := .tuple #[.agg #[.int .i64 x1, .int .u32 x2, .int .u32 x3], .bool true]) (by simp [results, Tryz.results58, go_sem, b0, b1, b2, bf, bs]) rfl ⟨rfl, show Ext w _ by exact exF⟩
theorem heap_new {w : World} {o : Obj} {n : Nat} (hn : n = w.heap.size) : (w.alloc o).heap[n]? = some o := by subst hn; exact (MapKept.heap_alloc w o).1
theorem Tryz.infoView : (Tryz.prog.info? 179).map (fun i => (i.zero, i.size, i.bytes)) = some (some (.agg #[.map none]), 1, 8) := by kernel_rfl
theorem mk_views (n : Nat) (hn : n ≤ 100000) (w : World) : (Instr.makeSlice 79 (.int .i64 n) (.int .i64 n)).run Tryz.prog w =
 .ok (.slice (some ⟨w.heap.size, 0, none⟩) n n) (w.alloc (.cells (madeCells #[.map none] (n * 1)) 179)) := by
 obtain ⟨i0, hi, hz0, hz1, hz2⟩ := info_parts Tryz.infoView
 have := run_make (P := Tryz.prog) w 79 179 i0 _ Tryz.underlying79 hi hz0 .i64 .i64 n n (by omega) (by omega) (by rw [hz2]; omega) (by omega)
 have hcs : (Value.agg #[.map none]).cells = #[.map none] := by simp [Value.cells]
 rw [hz1, hcs] at this
 simpa using this
set_option maxRecDepth 100000 in
set_option maxHeartbeats 1000000 in
theorem mwith_any {w : World} {P : Nat → Prop} {pa va : Option Addr} {pn pc vn vc : Nat} {m : Me} (h : MeR w P (.slice pa pn pc) (.slice va vn vc) m) (t i : Nat) (ht : t = i + 1) (hi : i < m.vs.length) (hvn : vn ≤ 1000) (q : Option Nat) (f : Int → Nat) (hq : VwR w P (.map q) f) :
 Calls Tryz.prog 158 #[.agg #[.slice pa pn pc, .slice va vn vc], .int .i64 t, .agg #[.map q]] w fun e w' => ∃ va' vc', e = .returned (.agg #[.slice pa pn pc, .slice va' vn vc']) ∧ Ext w w' ∧ MeR w' (fun b => P b ∨ NewB memD w w' b) (.slice pa pn pc) (.slice va' vn vc') ⟨m.pl, m.vs.set i f⟩ := by
 obtain ⟨hp, qs, h1, h2, h3⟩ := h
 have HPl := hid hp
 have HV := hid h1
 have HVs := hid h3
 have HQ := hid hq
 have hql : vn = qs.length := by obtain ⟨a', c', hv, _⟩ := h1.1; simp only [Value.slice.injEq] at hv; exact hv.2.1
 have HQl := hid hql
 have HL := hid h2
 have HI := hid (show i < vn by omega)
 have hmk := mk_views vn (by omega)
 have hw : wrap64 ((t : Int) - 1) = (i : Int) := by rw [show (t : Int) - 1 = (i : Int) by omega]; exact IntWalk.wrap64_in _ (by omega)
 have hil : (i : Int) < (vn : Int) := by omega
 clear hp h1 h3 hq hql h2 ht hi
 go_enter Tryz.func158, Tryz.ntmps158
 go_upto_region 2 with fail
 generalize hU : World.alloc _ _ = U
 have HEU := hid (show Ext w U by rw [← hU]; exact exP)
 have HB0 := hid (show Blk U w.heap.size [.slice pa pn pc, .slice va vn vc] by rw [← hU]; exact bkP)
 have HB1 := hid (show Blk U (w.heap.size + 1) [.map q] by rw [← hU]; exact bkP)
 have HB2 := hid (show Blk U (w.heap.size + 1 + 1) [.slice none 0 0, .slice none 0 0] by rw [← hU]; exact bkP)
 have HG := hid (show U.heap[w.heap.size + 1 + 1 + 1]? = some (.cells (madeCells #[.map none] (vn * 1)) 179 (0, 0)) by rw [← hU, Nat.mul_one]; exact heap_new (by simp))
 clear hU
 have HS := hid HEU.out.size
 obtain ⟨g0, hg0⟩ : ∃ g, g = w.heap.size := ⟨_, rfl⟩
 have HGw := hid (show w.heap.size = g0 from hg0.symm)
 rw [← hg0] at HB0 HB1 HB2 HG ⊢
 clear hg0
 have a0 := HB0.out.2.2 0 _ rfl
 have a1 := HB0.out.2.2 1 _ rfl
 have ag := HB0.out.1
 go_wp2_with fail
 obtain ⟨w1, hrun, hg1, hb1, hty⟩ := copy_one (P := Tryz.prog) mqE_len (by simp [Value.oneCell']) 79 79 3 _ Tryz.underlying79 (by kernel_rfl) (g0 + 1 + 1 + 1) vn (m := vn) (HV.out.1.of mqE_len HEU.out) (by have := HI.out; omega) _ _ HG.out (by simp [madeCells])
 rw [hrun]
 simp only [Result.andThen]
 rw [Oper.upon_value]
 have HG1 := hid hg1
 have HBm := hid hb1
 have HNw := hid (show NewB memD w w1 (g0 + 1 + 1 + 1) from by
  obtain ⟨o1, h1, h2⟩ := (hty memD).2 _ _ HG.out (show _ ∈ memD from List.mem_cons_self ..)
  exact ⟨by have := HGw.out; omega, o1, h1, h2⟩)
 clear hty
 have b0 := HB0.out.grn hg1 (by omega)
 have b1 := HB1.out.grn hg1 (by omega)
 have b2 := HB2.out.grn hg1 (by omega)
 clear hg1 hb1 hrun a0 a1 ag HB0 HB1 HB2
 have HB0 := hid b0
 have HB1 := hid b1
 have HB2 := hid b2
 clear b0 b1 b2
 have a0 := HB0.out.2.2 0 _ rfl
 have a1 := HB0.out.2.2 1 _ rfl
 have af := HB0.out.2.1
 have ag := HB0.out.1
 have c0 := HB1.out.2.2 0 _ rfl
 have cg := HB1.out.1
 have d0 := HB2.out.2.2 0 _ rfl
 have d1 := HB2.out.2.2 1 _ rfl
 have df := HB2.out.2.1
 have dg := HB2.out.1
 obtain ⟨qi, hqi⟩ : ∃ x, qs[i]? = some x := ⟨qs[i]'(by have := HI.out; have := HQl.out; omega), List.getElem?_eq_getElem _⟩
 have m0 := HBm.out.2.2 i (.map qi) (by have := flat_at mqE_len qs i qi hqi 0 (by omega); simpa using this)
 have mf := HBm.out.2.1
 have mg := HBm.out.1
 (repeat (first | go_values | go_skip | go_guarded | go_step | go_upon | (simp only [Int.not_lt, Int.not_le] at *; go_simp) | (go_ite <;> go_prune <;> (try go_simp))))
 have hgw := HGw.out
 have HEW := hid (Ext.grn HEU.out HG1.out (by omega))
 have hfs := flat_set mqE_len qs i qi q hqi 0 (by omega) (.map q) rfl
 rw [Nat.mul_one, Nat.add_zero] at hfs
 have hb := HBm.out.set i (by rw [flat_len mqE_len]; have := HI.out; have := HQl.out; omega) (.map q)
 rw [hfs] at hb
 have HBn := hid hb
 clear hb hfs
 refine bodyPost_ret (v := .agg #[.slice pa pn pc, .slice (some ⟨g0 + 1 + 1 + 1, 0, none⟩) vn vn]) (by simp [results, Tryz.results158, go_sem, d0, d1, df, dg]) rfl ⟨_, _, rfl, by exact exF, (HPl.out.of (by exact exF)).imp (fun b h => .inl h), qs.set i q, ?_, by rw [List.length_set, List.length_set]; exact HL.out, ?_⟩
 ·have hsl : ∀ V, Blk V (g0 + 1 + 1 + 1) ((qs.set i q).flatMap mqE) → Sl V 1 mqE (.slice (some ⟨g0 + 1 + 1 + 1, 0, none⟩) vn vn) (qs.set i q) := fun V hV => by
   have h := sl_blk (c := vn) mqE_len hV (by rw [List.length_set]; have := HQl.out; omega) (by rw [List.length_set, HQl.out]; exact Nat.le_refl _)
   rw [List.length_set, ← HQl.out] at h
   exact h
  exact ⟨hsl _ (Blk.other' (by omega) (Blk.other' (by omega) (Blk.other' (by omega) HBn.out))), fun _ a n c he => by simp only [Value.slice.injEq, Option.some.injEq] at he; rw [← he.1]; exact .inr (HNw.out.to (Nat.le_refl _) (by exact tyP))⟩
 ·intro j q' f' h1 h2
  by_cases hj : i = j
  ·subst hj
   rw [List.getElem?_set_self (by have := HI.out; have := HQl.out; omega)] at h1
   rw [List.getElem?_set_self (by have := HI.out; have := HQl.out; have := HL.out; omega)] at h2
   cases h1; cases h2
   exact (HQ.out.of (by exact exF)).imp (fun b h => .inl h)
  ·rw [List.getElem?_set_ne hj] at h1 h2
   exact ((HVs.out j q' f' h1 h2).of (by exact exF)).imp (fun b h => .inl h)
def meFinds (m : Me) (ti : Nat) (at_ : Nat) (i : Nat) (joined : Bool) (f g : Int → Nat) : Me := ⟨m.pl, m.vs.set ti (if joined = true then vJoin (vWith f at_ i) g else vWith f at_ i)⟩
set_option maxRecDepth 100000 in
set_option maxHeartbeats 1000000 in
theorem mfinds_any {w : World} {P : Nat → Prop} (hP : ∀ b, P b → b < w.heap.size) {pa va : Option Addr} {pn pc vn vc : Nat} {m : Me} (h : MeR w P (.slice pa pn pc) (.slice va vn vc) m) (t ti : Nat) (ht : t = ti + 1) (f : Int → Nat) (hf : m.vs[ti]? = some f) (hvn : vn ≤ 1000) (hpn : pn ≤ 5000)
 (at_ : Nat) (l : List Mg) (hl : m.pl[at_]? = some l) (i : Nat) (x1 x2 x3 x4 : Int) (g : Int → Nat) (hm : l[i]? = some ⟨(x1, x2, x3), x4, g⟩) (hi : i ≤ 1000000) (joined : Bool) :
 Calls Tryz.prog 160 #[.agg #[.slice pa pn pc, .slice va vn vc], .int .i64 t, .int .i64 at_, .int .i64 i, .bool joined] w fun e w' => ∃ va' vc', e = .returned (.tuple #[.agg #[.slice pa pn pc, .slice va' vn vc'], .agg #[.int .i64 x1, .int .u32 x2, .int .u32 x3]]) ∧ Ext w w' ∧ MeR w' (fun b => P b ∨ NewB memD w w' b) (.slice pa pn pc) (.slice va' vn vc') (meFinds m ti at_ i joined f g) := by
 have H := hid h
 have HP := hid hP
 have HF := hid hf
 have HM := hid hm
 have HT := hid ht
 have HI := hid hi
 have HVn := hid hvn
 have htl := hid (List.getElem?_eq_some_iff.1 hf).1
 obtain ⟨hs, h1, h2, h3⟩ := id h.1
 have hal : at_ < m.pl.length := (List.getElem?_eq_some_iff.1 hl).1
 obtain ⟨q, hq⟩ : ∃ q, hs[at_]? = some q := ⟨hs[at_]'(by omega), List.getElem?_eq_getElem _⟩
 obtain ⟨hvl, b, o, rfl, hb, hc⟩ := h1.1.at hq
 have c0 := hc 0 (by omega)
 simp at c0
 obtain ⟨q1, q2, q3⟩ := q
 dsimp only at c0
 have HV := hid (h3 at_ _ l hq hl)
 have hil : (at_ : Int) < (pn : Int) := by omega
 have HAw := hid (show (Lit.int .i64 (at_ : Int)).wf = true from wf64 (by omega) (by omega))
 clear h h1 h2 h3 hq hl hc hal hvl hP hf hm ht hi hvn
 go_enter Tryz.func160, Tryz.ntmps160
 go_wp2_with fail
 refine (hat_any (HV.out.of (by exact exP)) i x1 x2 x3 x4 g HM.out).mono ?_
 rintro e w1 ⟨mq, rfl, he, hq⟩
 have HE1 := hid (Ext.trans (show Ext w _ by exact exP) he)
 have HB5 := hid ((show Blk _ w.heap.size [.slice (some ⟨b, o, none⟩) pn pc, .slice va vn vc] by exact bkP).of he)
 have HB10 := hid ((show Blk _ (w.heap.size + 1) [.slice none 0 0, .slice none 0 0] by exact bkP).of he)
 have HB11 := hid ((show Blk _ (w.heap.size + 1 + 1) [.int .i64 0, .int .u32 0, .int .u32 0] by exact bkP).of he)
 have HQ := hid hq
 clear he hq c0
 go_upto_region 2 with fail
 generalize hV : World.alloc _ _ = V
 have HEV1 := hid (show Ext w1 V by rw [← hV]; exact exP)
 have HB12 := hid (show Blk V w1.heap.size [.int .i64 x1, .int .u32 x2, .int .u32 x3, .int .i64 x4, .map mq] by rw [← hV]; exact bkP)
 obtain ⟨g0, hg0⟩ : ∃ g, g = w.heap.size := ⟨_, rfl⟩
 obtain ⟨g2, hg2⟩ : ∃ g, g = w1.heap.size := ⟨_, rfl⟩
 have HGw := hid (show w.heap.size = g0 ∧ g0 + 3 ≤ g2 from ⟨hg0.symm, by have := HB11.out.1; omega⟩)
 rw [← hg2] at HB12 ⊢
 rw [← hg0] at HB5 HB10 HB11 ⊢
 have HEV := hid (HE1.out.trans HEV1.out)
 have HV5 := hid (HB5.out.of HEV1.out)
 have HV10 := hid (HB10.out.of HEV1.out)
 have HV11 := hid (HB11.out.of HEV1.out)
 have HQV := hid (HQ.out.of HEV1.out)
 have HGv := hid (show g2 < V.heap.size from HB12.out.1)
 clear hV hg0 hg2 HB5 HB10 HB11 HQ HE1 HEV1
 have a0 := HV5.out.2.2 0 _ rfl
 have a1 := HV5.out.2.2 1 _ rfl
 have ag := HV5.out.1
 go_wp2_with fail
 refine (mseen_any _ pn pc (H.out.2.of HEV.out) t ti HT.out f HF.out HVn.out).mono ?_
 rintro e w2 ⟨qv, rfl, he, hv⟩
 have HS2 := hid he
 have HQv := hid hv
 clear he hv a0 a1 ag
 go_wp2_with fail
 refine (vwith_any HQv.out at_ HAw.out i HI.out).mono ?_
 rintro e w3 ⟨v', rfl, he, hv⟩
 obtain ⟨qw, rfl⟩ := hv.shape
 have HS3 := hid he
 have HQw := hid hv
 clear he hv
 go_upto_region 3 with fail
 generalize hX : World.alloc _ _ = X
 have HEX3 := hid (show Ext w3 X by rw [← hX]; exact exP)
 have HX14 := hid (show Blk X w3.heap.size [.map qw] by rw [← hX]; exact bkP)
 have HXs := hid (show X.heap.size = w3.heap.size + 1 by rw [← hX]; simp)
 obtain ⟨g4, hg4⟩ : ∃ g, g = w3.heap.size := ⟨_, rfl⟩
 rw [← hg4] at HX14 HXs ⊢
 have HEX := hid ((HS2.out.trans HS3.out).trans HEX3.out)
 have HG4 := hid (show V.heap.size ≤ g4 by rw [hg4]; exact (HS2.out.trans HS3.out).size)
 have HQX := hid (show VwR X (fun b => P b ∨ V.heap.size ≤ b) (.map qw) (vWith f at_ i) from (HQw.out.imp (fun b h => h.imp id (fun h => Nat.le_trans HS2.out.size h))).of HEX3.out)
 have HQM := hid (show VwR X (fun b => P b ∨ V.heap.size ≤ b) (.map mq) g from (HQV.out.of HEX.out).imp (fun b h => .inl h))
 clear hX hg4 HQw HQV HQv HEX3 HS2 HS3
 have HX12 := hid (HB12.out.of HEX.out)
 go_upto_if 31 with fail
 go_cut [] (fun wx => ∃ qf, Hid (Blk wx g4 [.map qf]) ∧ Hid (VwR wx (fun b => P b ∨ V.heap.size ≤ b) (.map qf) (if joined = true then vJoin (vWith f at_ i) g else vWith f at_ i)) ∧ Hid (Ext V wx))
 case first =>
  cases joined
  ·go_wp2_with fail
   go_meet
   exact ⟨qw, HX14, HQX, HEX⟩
  ·have k0 := HX14.out.2.2 0 _ rfl
   have k1 := HX14.out.2.1
   have k2 := HX14.out.1
   have l4 := HX12.out.2.2 4 _ rfl
   have lg := HX12.out.1
   go_wp2_with fail
   refine (vjoin_any HQX.out HQM.out).mono ?_
   rintro e w4 ⟨v', rfl, he, hv⟩
   obtain ⟨qj, rfl⟩ := hv.shape
   have HS4 := hid he
   have HQj := hid hv
   have hb := HX14.out.of he
   clear k0 k1 k2 l4 lg he hv
   have k0 := hb.2.2 0 _ rfl
   have k1 := hb.2.1
   have k2 := hb.1
   have HXb := hid hb
   clear hb
   go_wp2_with fail
   go_meet
   exact ⟨qj, hid (by (show Blk _ _ _; repeat first | (with_reducible first | (refine xH ?_; assumption) | apply bD | apply bX) | ((with_reducible refine bN _ _ rfl ?_); first | with_reducible rfl | focus (simp; done)) | ((with_reducible apply bE); first | with_reducible rfl | focus (simp; done)) | (with_reducible first | apply bA | assumption | apply bS) | ((with_reducible refine bO ?_ ?_); first | omega | (simp; omega)) | (show List.set _ _ _ = _; exact rfl) | focus (show _ < List.length _; simp; done))), hid ((HQj.out.imp (P' := fun b => P b ∨ V.heap.size ≤ b) (fun b h => h.elim id (fun h => .inr (Nat.le_trans HEX.out.size h)))).kpm (P' := fun _ => False) (by (show KpB _ _ _; repeat first | (with_reducible first | exact KpB.refl | refine KpB.ext ?_ _ | refine KpB.alloc ?_ _ | refine KpB.drew ?_ | refine KpB.setCell ?_ (fun h => h) _) | exact KpB.refl))), hid (Ext.setCell (HEX.out.trans HS4.out) HG4.out _)⟩
 case rest =>
 obtain ⟨qf, HX14, HQf, HEc⟩ := hcut
 go_upto_region 5 with fail
 have h5 := HV5.out.of HEc.out
 have h12 := HB12.out.of HEc.out
 have a0 := h5.2.2 0 _ rfl
 have a1 := h5.2.2 1 _ rfl
 have ag := h5.1
 have k0 := HX14.out.2.2 0 _ rfl
 have k2 := HX14.out.1
 have l0 := h12.2.2 0 _ rfl
 have l1 := h12.2.2 1 _ rfl
 have l2 := h12.2.2 2 _ rfl
 have lg := h12.1
 clear h5 h12
 have hvs := HEc.out.size
 have HVc := hid hvs
 clear hvs
 have hgs := HGw.out
 have hg4 := HG4.out
 have hgv := HGv.out
 have HSt := hid (show ∀ w', Gr2 (g0 + 1) (g0 + 1 + 1) wc w' → (fun w' => (w'.cell? ⟨g0, 0, none⟩ = some (.slice (some ⟨b, o, none⟩) pn pc) ∧ w'.cell? ⟨g0, 1, none⟩ = some (.slice va vn vc)) ∧ w'.cell? ⟨g4, 0, none⟩ = some (.map qf) ∧ (w'.cell? ⟨g2, 0, none⟩ = some (.int .i64 x1) ∧ w'.cell? ⟨g2, 1, none⟩ = some (.int .u32 x2) ∧ w'.cell? ⟨g2, 2, none⟩ = some (.int .u32 x3)) ∧ (g0 < w'.heap.size ∧ g4 < w'.heap.size ∧ g2 < w'.heap.size)) w' from fun w' G => ⟨⟨G.cell (by omega) (by omega) a0, G.cell (by omega) (by omega) a1⟩, G.cell (by omega) (by omega) k0, ⟨G.cell (by omega) (by omega) l0, G.cell (by omega) (by omega) l1, G.cell (by omega) (by omega) l2⟩, Nat.lt_of_lt_of_le ag G.1, Nat.lt_of_lt_of_le k2 G.1, Nat.lt_of_lt_of_le lg G.1⟩)
 clear hgs hg4 hgv
 have h10 := HV10.out.of HEc.out
 have h11 := HV11.out.of HEc.out
 have HW10 := hid h10
 have HW11 := hid h11
 have b0 := h10.2.2 0 _ rfl
 have b1 := h10.2.2 1 _ rfl
 have bf := h10.2.1
 have bg := h10.1
 have c0 := h11.2.2 0 _ rfl
 have c1 := h11.2.2 1 _ rfl
 have c2 := h11.2.2 2 _ rfl
 have cf := h11.2.1
 have cg := h11.1
 clear h10 h11
 refine wp_region_held_drew (S := fun w' => (w'.cell? ⟨g0, 0, none⟩ = some (.slice (some ⟨b, o, none⟩) pn pc) ∧ w'.cell? ⟨g0, 1, none⟩ = some (.slice va vn vc)) ∧ w'.cell? ⟨g4, 0, none⟩ = some (.map qf) ∧ (w'.cell? ⟨g2, 0, none⟩ = some (.int .i64 x1) ∧ w'.cell? ⟨g2, 1, none⟩ = some (.int .u32 x2) ∧ w'.cell? ⟨g2, 2, none⟩ = some (.int .u32 x3)) ∧ (g0 < w'.heap.size ∧ g4 < w'.heap.size ∧ g2 < w'.heap.size)) (by kernel_rfl) (by exact HSt.out _ (by repeat (first | with_reducible exact Gr2.refl | ((with_reducible refine Gr2.setL ?_ _ _)) | ((with_reducible refine Gr2.setR ?_ _ _)) | ((with_reducible refine Gr2.ext ?_ _)) | ((with_reducible refine Gr2.drew ?_))))) (fun hHeld => ?_)
 refine tkm 0 (v := ?_) rfl ?_ ?_
 rotate_left 1
 ·intro w hSw
  try dsimp only at hSw
  go_simp
  try with_reducible rfl
 (try simp only [Act.put, pA, pB, pC])
 refine tkm 1 (v := ?_) rfl ?_ ?_
 rotate_left 1
 ·intro w hSw
  try dsimp only at hSw
  go_simp
  try with_reducible rfl
 (try simp only [Act.put, pA, pB, pC])
 refine tkm 2 (v := ?_) rfl ?_ ?_
 rotate_left 1
 ·intro w hSw
  try dsimp only at hSw
  go_simp
  try with_reducible rfl
 (try simp only [Act.put, pA, pB, pC])
 refine tkm 4 (v := ?_) rfl ?_ ?_
 rotate_left 1
 ·intro w hSw
  try dsimp only at hSw
  go_simp
  try with_reducible rfl
 (try simp only [Act.put, pA, pB, pC])
 refine tkm 5 (v := ?_) rfl ?_ ?_
 rotate_left 1
 ·intro w hSw
  try dsimp only at hSw
  go_simp
  try with_reducible rfl
 (try simp only [Act.put, pA, pB, pC])
 refine take_only 3 (oi := ⟨_, _, _, _, _, _⟩) (by kernel_rfl) rfl (fun K hK => ?_)
 go_simp
 first
  | (go_at_call 158; refine (mwith_any (P := fun b => P b ∨ NewB memD V wc b) ((H.out.of (show Ext w _ from (HEV.out.trans HEc.out).trans (by exact exF))).imp (fun b h => .inl h)) t ti HT.out htl.out HVn.out qf _ ((VwR.newM HQf.out).of (show Ext wc _ by exact exF))).mono ?_; rintro e w' ⟨va', vc', rfl, ⟨r', rfl⟩, hm⟩; have HMe := hid hm; clear hm)
 have hOld := hHeld
 clear hHeld
 refine hK.out _ _ (by exact HSt.out _ (by repeat (first | with_reducible exact Gr2.refl | ((with_reducible refine Gr2.setL ?_ _ _)) | ((with_reducible refine Gr2.setR ?_ _ _)) | ((with_reducible refine Gr2.ext ?_ _)) | ((with_reducible refine Gr2.drew ?_))))) (fun hHeld => ?_)
 clear hOld hK K
 (try simp only [Act.put, pA, pB, pC])
 refine take_only 6 (oi := ⟨_, _, _, _, _, _⟩) (by kernel_rfl) rfl (fun K hK => ?_)
 go_simp
 have hOld := hHeld
 clear hHeld
 refine hK.out _ _ (by exact HSt.out _ (by repeat (first | with_reducible exact Gr2.refl | ((with_reducible refine Gr2.setL ?_ _ _)) | ((with_reducible refine Gr2.setR ?_ _ _)) | ((with_reducible refine Gr2.ext ?_ _)) | ((with_reducible refine Gr2.drew ?_))))) (fun hHeld => ?_)
 clear hOld hK K
 (try simp only [Act.put, pA, pB, pC])
 refine take_only 7 (oi := ⟨_, _, _, _, _, _⟩) (by kernel_rfl) rfl (fun K hK => ?_)
 go_simp
 have hOld := hHeld
 clear hHeld
 refine hK.out _ _ (by exact HSt.out _ (by repeat (first | with_reducible exact Gr2.refl | ((with_reducible refine Gr2.setL ?_ _ _)) | ((with_reducible refine Gr2.setR ?_ _ _)) | ((with_reducible refine Gr2.ext ?_ _)) | ((with_reducible refine Gr2.drew ?_))))) (fun hHeld => ?_)
 clear hOld hK K
 (try simp only [Act.put, pA, pB, pC])
 refine wpAnyH_done (by kernel_rfl) ?_ _
 clear hHeld
 have hb10 := HW10.out.1
 have hb11 := HW11.out.1
 have hgw := HGw.out
 have hgv := HGv.out
 have HEw := hid (HEV.out.trans HEc.out)
 have hvs := HVc.out
 have hn1 : ¬ ((P (g0 + 1) ∨ NewB memD V wc (g0 + 1)) ∨ NewB memD wc.drew (ext wc.drew r') (g0 + 1)) := fun h => by
  rcases h with (h | h) | h
  ·have := HP.out _ h; omega
  ·have h1 := h.1; omega
  ·have h1 : wc.heap.size ≤ g0 + 1 := h.1
   omega
 have hn2 : ¬ ((P (g0 + 1 + 1) ∨ NewB memD V wc (g0 + 1 + 1)) ∨ NewB memD wc.drew (ext wc.drew r') (g0 + 1 + 1)) := fun h => by
  rcases h with (h | h) | h
  ·have := HP.out _ h; omega
  ·have h1 := h.1; omega
  ·have h1 : wc.heap.size ≤ g0 + 1 + 1 := h.1
   omega
 (repeat (first | go_values | go_skip | go_guarded | go_step | go_upon | (simp only [Int.not_lt, Int.not_le] at *; go_simp) | (go_ite <;> go_prune <;> (try go_simp))))
 refine bodyPost_ret (v := .tuple #[.agg #[.slice (some ⟨b, o, none⟩) pn pc, .slice va' vn vc'], .agg #[.int .i64 x1, .int .u32 x2, .int .u32 x3]]) (by simp [results, Tryz.results160, go_sem, b0, b1, bf, bg, c0, c1, c2, cf, cg]) rfl ⟨va', vc', rfl, by exact exF, ?_⟩
 have hk := MeR.kp (show MeR (ext wc r') _ _ _ _ from HMe.out) ((((((KpB.refl).setCell hn1 (i := 0) (.slice (some ⟨b, o, none⟩) pn pc)).setCell hn1 (i := 1) (.slice va' vn vc')).setCell hn2 (i := 0) (.int .i64 x1)).setCell hn2 (i := 1) (.int .u32 x2)).setCell hn2 (i := 2) (.int .u32 x3))
 refine hk.imp (fun n h => ?_)
 rcases h with (h | h) | h
 ·exact .inl h
 ·exact .inr (h.to HEV.out.size (by exact tyP))
 ·exact .inr ((show NewB memD wc.drew (ext wc r') n from h).to (show w.heap.size ≤ wc.heap.size by have := HEV.out.size; omega) (by exact tyP))
end Go.Proofs.YtiacdohaiidehaaGreatDoor
