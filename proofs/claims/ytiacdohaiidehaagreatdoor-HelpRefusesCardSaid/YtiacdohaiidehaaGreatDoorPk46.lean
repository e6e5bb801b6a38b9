/- Package help as a kind of code; Status and Depth over a stack. The example of the laws on helps: the plain run over any memory that holds the ten words. The example of the laws on helps: Alone. The example of the laws on helps: Alone over the world. Arguments opened: entries, arrays of words, of small numbers, descriptors. The frame that all laws of this seat share: an argument reads behind the call as it read before, wherever the call has only made new memory; what the listed table gives a walk. -/
import Derived.Test.YtiacdohaiidehaaGreatDoorPk45
import Derived.Test.YtiacdohaiidehaaGreatDoorPk24
import Derived.Laws.IdiomArrays
import Derived.Test.YtiacdohaiidehaaGreatDoorRows
import Derived.ProofKit
import Derived.LaidMore
import Derived.OpenShut
import Derived.Stop.Joined
import Derived.Lib.SmallJoins
import Derived.Lib.LaidTab
import Derived.SevenTiedAt
namespace Go.Proofs.YtiacdohaiidehaaGreatDoor
set_option linter.unusedSimpArgs false
set_option linter.unusedVariables false
open Go.RowKit
theorem Szs.agp {w w' : World} {P : Nat → Prop} (h : Szs w) (hP : P 0) (k : AgP P w w') : Szs w' := fun i hi => by
 have e := h i hi
 rw [k.cell hP (World.block_lt_of_cell? w _ e)]
 exact e
def hpK (t c b : Int) (dur : Bool) (hk : checkN t c b = 0) : CodeK where
 T := hpT
 F := 198
 hT := codeT_hp
 C := List Hd
 R := fun w P v S => (P 0 ∧ Szs w) ∧ ∃ h, v = .agg (hL h).toArray ∧ HhR t c b dur w P S h
 st := by
  rintro w w' P v S ⟨⟨h1, h2⟩, h, rfl, h3⟩ k
  exact ⟨⟨h1, h2.agp h1 k⟩, h, rfl, HhR.agp k _ _ h3⟩
 imp := by
  rintro w P P' v S ⟨⟨h1, h2⟩, h, rfl, h3⟩ k
  exact ⟨⟨k _ h1, h2⟩, h, rfl, HhR.imp k _ _ h3⟩
 bnd := by
  rintro w P v S ⟨⟨h1, h2⟩, h, rfl, h3⟩
  exact ⟨⟨⟨h1, World.block_lt_of_cell? w _ (h2 0 (by decide))⟩, h2⟩, h, rfl, HhR.bnd _ _ h3⟩
 Gd := fun g => WdOk g.1
 nx := hpNext t c b dur
 ok := by
  rintro w P v S hP ⟨⟨h1, h2⟩, h, rfl, h3⟩ g hg
  refine (hp_next hk g hg S h w h2 P hP h3).mono ?_
  rintro e w' ⟨h', a, dn, hone, rfl, hx, hr, rfl, rfl⟩
  exact ⟨_, rfl, hx, ⟨.inl h1, h2.of hx⟩, h', rfl, hr⟩
def hrZ : Hr := ⟨0, 0, 0, 0, 0, 0, 0, 0, false, .slice none 0 0, 0, .slice none 0 0, 0, 0, 0, 0, 0, .nilIface, false, .nilFunc, .nilFunc⟩
theorem hrZ_one : hrZ.One := ⟨rfl, rfl, rfl, rfl, rfl⟩
theorem assert_nil_hp (w : World) : (Instr.typeAssert .nilIface 33 hpT true).run Tryz.prog w = .ok (.tuple #[.agg (hL hrZ).toArray, .bool false]) w := by kernel_rfl
set_option maxRecDepth 100000 in
set_option maxHeartbeats 1000000 in
theorem hp_Status_nil (w : World) : Calls Tryz.prog 13 #[.nilIface] w fun e w' => e = .returned (.tuple #[.int .i64 0, .bool false]) ∧ Ext w w' := by
 obtain ⟨z, hz⟩ : ∃ z, z = hrZ := ⟨_, rfl⟩
 have hat := assert_nil_hp
 simp only [← hz] at hat
 have hzo : z.One := by rw [hz]; exact hrZ_one
 have hze : z.ended = false := by rw [hz]; rfl
 have HZo := hid hzo
 clear hz hzo
 go_enter Tryz.func13, Tryz.ntmps13
 go_upto_region 2 with (refine st_new rfl 106 _ _ rfl rfl rfl (show Blk _ w.heap.size zH from by exact bkP) rfl Tryz.hInfo HZo.out.all w (by exact exP) (Nat.le_refl _) ?_; intro W1 hb1 hE1)
 have x_e : W1.cell? ⟨w.heap.size, 18, none⟩ = some (.bool false) := by rw [← hze]; exact hb1.2.2 18 _ rfl
 have x_g := hb1.1
 clear hze
 go_wp2_with fail
 go_ret2
 exact ⟨rfl, hE1⟩
set_option maxRecDepth 100000 in
set_option maxHeartbeats 1000000 in
theorem hp_Depth_nil (w : World) : Calls Tryz.prog 15 #[.nilIface] w fun e w' => e = .returned (.int .i64 0) ∧ Ext w w' := by
 obtain ⟨z, hz⟩ : ∃ z, z = hrZ := ⟨_, rfl⟩
 have hat := assert_nil_hp
 simp only [← hz] at hat
 have hzo : z.One := by rw [hz]; exact hrZ_one
 have hze : z.ended = false := by rw [hz]; rfl
 have HZo := hid hzo
 clear hz hzo
 go_enter Tryz.func15, Tryz.ntmps15
 go_upto_region 2 with (refine st_new rfl 106 _ _ rfl rfl rfl (show Blk _ w.heap.size zH from by exact bkP) rfl Tryz.hInfo HZo.out.all w (by exact exP) (Nat.le_refl _) ?_; intro W1 hb1 hE1)
 go_wp2_with fail
 go_ret
 exact ⟨rfl, hE1⟩
set_option maxRecDepth 100000 in
set_option maxHeartbeats 1000000 in
theorem hp_Depth_leaf (h : Hr) (ho : h.One) (hi : h.inn = .nilIface) (w : World) : Calls Tryz.prog 15 #[.iface hpT (.agg (hL h).toArray)] w fun e w' => e = .returned (.int .i64 0) ∧ Ext w w' := by
 have HO := hid ho
 have hat := assert_hp
 have hen := eq_nil_nil
 clear ho
 go_enter Tryz.func15, Tryz.ntmps15
 go_upto_region 2 with (refine st_new rfl 106 _ _ rfl rfl rfl (show Blk _ w.heap.size zH from by exact bkP) rfl Tryz.hInfo HO.out.all w (by exact exP) (Nat.le_refl _) ?_; intro W1 hb1 hE1)
 have x_i : W1.cell? ⟨w.heap.size, 17, none⟩ = some .nilIface := by rw [← hi]; exact hb1.2.2 17 _ rfl
 have x_g := hb1.1
 clear hi
 go_wp2_with fail
 go_ret
 exact ⟨rfl, hE1⟩
theorem hp_Status_st {t c b : Int} {dur : Bool} {w : World} {P : Nat → Prop} {S : List Hd} {h : Hr} (hh : HhR t c b dur w P S h) (V : World) : Calls Tryz.prog 13 #[.iface hpT (.agg (hL h).toArray)] V fun e w' => e = .returned (.tuple #[.int .i64 (hpStat S).1, .bool (hpStat S).2]) ∧ Ext V w' := by
 have e2 : h.ended = (hpStat S).2 := by
  match S, hh with
  | [d], hh =>
   obtain ⟨⟨X, rfl, _⟩, _⟩ := hh
   unfold hpStat
   cases hd : d.ended <;> simp [hd]
  | d :: r :: rs, hh =>
   obtain ⟨_, _, ⟨X, rfl, _⟩, _⟩ := hh
   unfold hpStat
   cases hd : d.ended <;> simp [hd]
 have := hp_Status h (HhR.one _ _ hh) V
 rw [hstat _ _ hh, e2] at this
 exact this
open Go.RowKit Go.Maps
structure ExMem (mem : List Wd) : Prop where
 len : 72 ≤ mem.length
 c0 : mem[56]? = some (5, 0, 0)
 c1 : mem[57]? = some (7, 0, 0)
 s0 : mem[64]? = some (0, 1, 0)
 s1 : mem[65]? = some (2, 0, 0)
 s2 : mem[66]? = some (56, 1, 0)
 s3 : mem[67]? = some (5, 0, 0)
 s4 : mem[68]? = some (6, 0, 0)
 s5 : mem[69]? = some (57, 1, 0)
 s6 : mem[70]? = some (7, 0, 0)
 s7 : mem[71]? = some (8, 0, 0)
def exM (mem : List Wd) (j : Nat) : List Wd := if j ≤ 9 then mem else if j ≤ 10 then mem.set 56 (5, 0, 16777217) else if j ≤ 11 then (mem.set 56 (5, 0, 16777217)).set 57 (7, 0, 16777217) else if j ≤ 14 then ((mem.set 56 (5, 0, 16777217)).set 57 (7, 0, 16777217)).set 64 (1, 1, 0) else if j ≤ 16 then (((mem.set 56 (5, 0, 16777217)).set 57 (7, 0, 16777217)).set 64 (1, 1, 0)).set 56 (6, 1, 0) else ((((mem.set 56 (5, 0, 16777217)).set 57 (7, 0, 16777217)).set 64 (1, 1, 0)).set 56 (6, 1, 0)).set 57 (8, 1, 0)
theorem ex_step {mem : List Wd} (h : ExMem mem) (j : Nat) (hj : j < 17) : gotA (exA[j]?.getD a8Z) (exM mem j) = exG[j]?.getD ((0, 0, 0), false) ∧ memA (exA[j]?.getD a8Z) (exM mem j) = exM mem (j + 1) := by
 obtain ⟨hl, c0, c1, s0, s1, s2, s3, s4, s5, s6, s7⟩ := h
 have l64 : 64 < mem.length := by omega
 have l56 : 56 < mem.length := by omega
 have l57 : 57 < mem.length := by omega
 match j, hj with
 | 0, _ => simp [gotA, memA, exA, exG, exM, lookA, s0]
 | 1, _ => simp [gotA, memA, exA, exG, exM, loadA, s1]
 | 2, _ => simp [gotA, memA, exA, exG, exM, loadA, s2]
 | 3, _ => simp [gotA, memA, exA, exG, exM, loadA, s3]
 | 4, _ => simp [gotA, memA, exA, exG, exM, loadA, s4]
 | 5, _ => simp [gotA, memA, exA, exG, exM, loadA, s5]
 | 6, _ => simp [gotA, memA, exA, exG, exM, loadA, s6]
 | 7, _ => simp [gotA, memA, exA, exG, exM, loadA, s7]
 | 8, _ => simp [gotA, memA, exA, exG, exM, lookA, s0]
 | 9, _ => simp [gotA, memA, exA, exG, exM, swapA, c0]
 | 10, _ => simp [gotA, memA, exA, exG, exM, swapA, List.getElem?_set, c1]
 | 11, _ => simp [gotA, memA, exA, exG, exM, swapA, List.getElem?_set, s0]
 | 12, _ => simp [gotA, memA, exA, exG, exM, lookA, List.getElem?_set, l64]
 | 13, _ => simp [gotA, memA, exA, exG, exM, lookA, List.getElem?_set, l56]
 | 14, _ => simp [gotA, memA, exA, exG, exM, swapA, List.getElem?_set, l56]
 | 15, _ => simp [gotA, memA, exA, exG, exM, lookA, List.getElem?_set, l57]
 | 16, _ => simp [gotA, memA, exA, exG, exM, swapA, List.getElem?_set, l57]
 | j + 17, h => omega
theorem ex_act (j : Nat) (hj : j < 17) : (exS j).2 = (exA[j]?.getD a8Z, false) := by
 have h := congrArg (fun l => l[j]?) ex_acts
 simp only [List.getElem?_map] at h
 rw [List.getElem?_range hj] at h
 have hl : j < exA.length := hj
 rw [List.getElem?_eq_getElem hl] at h
 simp only [Option.map_some, Option.some.injEq] at h
 rw [h, List.getElem?_eq_getElem hl]
 rfl
def exK (K : CodeK) (f : List Hd → K.C) (j : Nat) : Tk K.C := ⟨f (exS j).1, (exS j).2.1, (exS j).2.2, exG.take j⟩
theorem ex_run (hk : checkN 3 8 1 = 0) {mem : List Wd} (h : ExMem mem) (j : Nat) (hj : j ≤ 17) : gmN (hpK 3 8 1 false hk) (exK (hpK 3 8 1 false hk) id 0, mem) j = (exK (hpK 3 8 1 false hk) id j, exM mem j) := by
 induction j with
 | zero => rfl
 | succ j ih =>
  have ha := ex_act j (by omega)
  obtain ⟨e1, e2⟩ := ex_step h j (by omega)
  have hl : j < exG.length := by show j < 17; omega
  show gmS _ (gmN _ _ j) = _
  rw [ih (by omega)]
  have hA : (exK (hpK 3 8 1 false hk) id j).a = exA[j]?.getD a8Z := congrArg (·.1) ha
  simp only [gmS, hA, e1, e2]
  refine Prod.ext ?_ rfl
  have ht : exG.take j ++ [exG[j]?.getD ((0, 0, 0), false)] = exG.take (j + 1) := by
   rw [List.take_add_one, List.getElem?_eq_getElem hl]; rfl
  show (⟨_, _, _, exG.take j ++ [exG[j]?.getD ((0, 0, 0), false)]⟩ : Tk (hpK 3 8 1 false hk).C) = _
  rw [ht]
  rfl
open Go.RowKit Go.Maps
theorem ex_places : ∀ a ∈ exA, (a.op = 1 ∨ a.op = 5 ∨ a.op = 6) ∧ 0 ≤ a.at_ ∧ a.at_ < 72 := by decide
theorem ex_words : ∀ g ∈ exG, WdOk g.1 := by
 intro g hg
 simp only [exG, List.mem_cons, List.not_mem_nil, or_false] at hg
 rcases hg with rfl | rfl | rfl | rfl | rfl | rfl | rfl | rfl | rfl | rfl | rfl | rfl | rfl | rfl | rfl | rfl | rfl <;> (unfold WdOk; dsimp only; omega)
theorem exM_len (mem : List Wd) (j : Nat) : (exM mem j).length = mem.length := by
 unfold exM
 repeat' split
 all_goals simp only [List.length_set]
theorem ex_ok (hk : checkN 3 8 1 = 0) {mem : List Wd} (h : ExMem mem) (j : Nat) (hj : j < 17) : GmOk (hpK 3 8 1 false hk) (gmN (hpK 3 8 1 false hk) (exK (hpK 3 8 1 false hk) id 0, mem) j) := by
 rw [ex_run hk h j (by omega)]
 have ha := ex_act j hj
 have hl : j < exA.length := hj
 have hlg : j < exG.length := hj
 have hA : (exK (hpK 3 8 1 false hk) id j).a = exA[j]?.getD a8Z := congrArg (·.1) ha
 have hd : (exK (hpK 3 8 1 false hk) id j).d = false := congrArg (·.2) ha
 have hm : exA[j]?.getD a8Z ∈ exA := by rw [List.getElem?_eq_getElem hl]; exact List.getElem_mem hl
 have hmg : exG[j]?.getD ((0, 0, 0), false) ∈ exG := by rw [List.getElem?_eq_getElem hlg]; exact List.getElem_mem hlg
 obtain ⟨p1, p2, p3⟩ := ex_places _ hm
 have hml := h.len
 refine ⟨hd, ?_, ?_, ?_, ?_⟩
 ·refine ⟨(exA[j]?.getD a8Z).at_.toNat, ?_, ?_⟩
  ·dsimp only; rw [hA]; omega
  ·dsimp only; rw [exM_len]; omega
 ·dsimp only; rw [hA]; exact p1
 ·dsimp only; rw [hA, (ex_step h j hj).1]; exact ex_words _ hmg
 ·show (exG.take j).length ≤ 10000
  rw [List.length_take]; omega
theorem ex_done (hk : checkN 3 8 1 = 0) {mem : List Wd} (h : ExMem mem) : (gmN (hpK 3 8 1 false hk) (exK (hpK 3 8 1 false hk) id 0, mem) 17).1.d = true := by
 rw [ex_run hk h 17 (Nat.le_refl _)]
 exact ex_end.1
open Go.RowKit Go.Maps
theorem exM_c0 {mem : List Wd} (h : ExMem mem) : (exM mem 17)[56]? = some (6, 1, 0) := by
 have hl := h.len
 have : 56 < mem.length := by omega
 simp [exM, List.getElem?_set, this]
theorem exM_c1 {mem : List Wd} (h : ExMem mem) : (exM mem 17)[57]? = some (8, 1, 0) := by
 have hl := h.len
 have : 57 < mem.length := by omega
 simp [exM, List.getElem?_set, this]
theorem ex_alone (hk : checkN 3 8 1 = 0) {w : World} {P : Nat → Prop} (hP : ∀ b, P b → b < w.heap.size) {pa va fa la sa ta ba : Option Addr} {pn pc vn vc fn fc ln lc sn sc tn tc bn bc : Nat} (q : Option Nat) (cr : Int) {m : Mc} {ts : List (Tk (List Hd))} {bs : List Bool}
 (h : WR (hpK 3 8 1 false hk) w P (.slice pa pn pc) (.slice va vn vc) (.slice fa fn fc) (.slice la ln lc) (.slice sa sn sc) (.slice ta tn tc) (.slice ba bn bc) m ts bs) {T : Nat} {mem : List Wd} {n : Nat} (hg : GM T m mem n) (hx : ExMem mem) (hT : T ≤ 8) (h0 : 0 < T) (hn : n ≤ 1000) (htl : ts.length ≤ 1000) (hbl : bs.length ≤ 1000) (hs : bs[0]?.getD false = false) (hk0 : ts[0]? = some (exK (hpK 3 8 1 false hk) id 0)) :
 Calls Tryz.prog 21 #[.agg #[.slice pa pn pc, .slice va vn vc, .slice fa fn fc, .slice la ln lc, .map q, .slice sa sn sc, .int .i64 cr, .slice ta tn tc, .slice ba bn bc], .int .i64 1, .int .i64 100] w fun e w' => ∃ v', e = .returned (.tuple #[v', .bool true]) ∧ Ext w w' ∧ ∃ m', GM T m' (exM mem 17) (n + 17) ∧ WV (hpK 3 8 1 false hk) w' (fun b => P b ∨ w.heap.size ≤ b) q cr v' m' (ts.set 0 (exK (hpK 3 8 1 false hk) id 17)) bs := by
 have hd := ex_done hk hx
 have := galone_any hP q cr h hg hT 0 h0 htl hbl hs _ hk0 100 17 (by omega) (by omega) (by omega) (fun j hj => ex_ok hk hx j hj) (.inr hd)
 rw [hd, ex_run hk hx 17 (Nat.le_refl _)] at this
 exact this
theorem GM.word {T : Nat} {m : Mc} {mem : List Wd} {n : Nat} (h : GM T m mem n) (p : Nat) (x1 x2 x3 : Int) (hx : mem[p]? = some (x1, x2, x3)) : ∃ l t f, m.me.pl[p]? = some l ∧ l[l.length - 1]? = some ⟨(x1, x2, x3), t, f⟩ ∧ l.length ≤ n + 1 := by
 have hp : p < m.me.pl.length := by rw [h.pn]; exact (List.getElem?_eq_some_iff.1 hx).1
 obtain ⟨c, t, f, e1, e2, e3⟩ := h.pl p _ (List.getElem?_eq_getElem hp)
 rw [hx] at e1
 cases e1
 exact ⟨_, t, f, List.getElem?_eq_getElem hp, e2, e3⟩
theorem gword_any {w : World} {P : Nat → Prop} {pa va fa la sa : Option Addr} {pn pc vn vc fn fc ln lc sn sc : Nat} (q : Option Nat) (cr : Int) {m : Mc} (h : McR w P (.slice pa pn pc) (.slice va vn vc) (.slice fa fn fc) (.slice la ln lc) (.slice sa sn sc) m) {T : Nat} {mem : List Wd} {n : Nat} (hg : GM T m mem n) (hn : n ≤ 100000) (p : Nat) (x1 x2 x3 : Int) (hx : mem[p]? = some (x1, x2, x3)) :
 Calls Tryz.prog 23 #[.agg #[.slice pa pn pc, .slice va vn vc, .slice fa fn fc, .slice la ln lc, .map q, .slice sa sn sc, .int .i64 cr], .int .i64 p] w fun e w' => e = .returned (.tuple #[.agg #[.int .i64 x1, .int .u32 x2, .int .u32 x3], .bool true]) ∧ Ext w w' := by
 obtain ⟨l, t, f, e1, e2, e3⟩ := hg.word p x1 x2 x3 hx
 exact mcword_any q cr h p l e1 (by rw [h.plen, hg.pn]; exact hg.pm) x1 x2 x3 t f e2 (by omega)
open Go.ChangeShapes Go.WideShapes Go.RowKit Go.Deep Go.Joins
section
variable {H : Type} {enc : TypeId × Value → H} {P : Program} {w : World} {base : Nat} {spare : Nat → Bool} {held : Bool}
end
section
variable {H : Type} {enc : TypeId × Value → H} {w : World} {base : Nat} {spare : Nat → Bool} {held : Bool}
abbrev Pt := Int × Int × Int × Int
def ptE (x : Pt) : List Value := [.int .u16 x.1, .int .i64 x.2.1, .int .u32 x.2.2.1, .int .u32 x.2.2.2]
def PtOk (x : Pt) : Prop := (0 ≤ x.1 ∧ x.1 ≤ 65535) ∧ WdOk x.2
end
open Go.ChangeShapes Go.WideShapes Go.ChangeAt Go.WideMaps Go.WideElems Go.RowKit Go.Joins
theorem Tryz.own : ownKnob Tryz.prog.godebug = none := by kernel_rfl
theorem Tryz.laidOut : laidOutB Tryz.prog = true := by kernel_rfl
theorem trodAll_ext {H : Type} {enc : TypeId × Value → H} {W W' : World} (hE : Ext W W') : ∀ (ts : List TypeId) (vs : List Value) (ds : List (DataW H)) (p : List MemPlace), (∀ t ∈ ts, Tryz.prog.readableRec t = true ∧ t < Tryz.prog.types.size) →
 DataW.TrodAll enc Tryz.prog W 0 (fun _ => true) true ts vs ds p → (∀ x ∈ p, x.block < W.heap.size) → DataW.TrodAll enc Tryz.prog W' 0 (fun b => decide (b < W.heap.size)) true ts vs ds p := by
 intro ts
 induction ts with
 | nil =>
  intro vs ds p _ h _
  obtain ⟨rfl, rfl, rfl⟩ := trodAll_nil h
  exact trodAll_mk0
 | cons t ts ih =>
  intro vs ds p ht h hlt
  obtain ⟨v, vs', d, ds', p1, q1, rfl, rfl, rfl, h1, h2⟩ := trodAll_cons h
  refine ⟨p1, q1, ?_, ih vs' ds' q1 (fun t' h' => ht t' (List.mem_cons_of_mem _ h')) h2 (fun x hx => hlt x (List.mem_append_right _ hx)), rfl⟩
  exact Below.trod Tryz.laidOut (ht t (List.mem_cons_self ..)).1 (ht t (List.mem_cons_self ..)).2 h1 hE.below (fun x hx => hlt x (List.mem_append_left _ hx))
theorem law_post {H : Type} {enc : TypeId × Value → H} (f : Func) (s : ChangeSpec) {W W' : World} {args : Array Value} {ds : List (DataW H)} {p : List MemPlace}
 (hv : s.vars = []) (hres : f.resultTypes.toList = [4]) (hrs : f.resultTypes.size = 1)
 (hW : DataW.Whole enc Tryz.prog f.params.toList s.vars false W args.toList ds [] p)
 (hr : (s.fn H (ds ++ [])).results = [.lit (.bool true)]) (ha : (s.fn H (ds ++ [])).args = ds) (hvs : (s.fn H (ds ++ [])).vars = [])
 (ht : ∀ t ∈ f.params.toList, Tryz.prog.readableRec t = true ∧ t < Tryz.prog.types.size) (hE : Ext W W') :
 s.post enc Tryz.prog f false true false false W args (.bool true) W' := by
 have hW2 := hW
 obtain ⟨p1, q1, hA, hV, rfl, _, _⟩ := hW
 rw [hv] at hV
 obtain ⟨_, rfl⟩ := trodVars_none hV
 refine ⟨ds, [], _, [], p1, [], hW2, ?_, ?_, ?_, hE.below.frame _, fun h => by cases h⟩
 ·rw [hr, hres, hrs]; exact trodAll_mk1 (shut_bool Tryz.underlying4 true)
 ·rw [ha]; exact trodAll_ext hE _ _ _ _ ht hA (fun x hx => hW2.lt x (List.mem_append_left _ hx))
 ·rw [hv, hvs]; rfl
theorem int_bd {x : Int} (h : (Lit.int .i64 x).wf = true) : -9223372036854775808 ≤ x ∧ x ≤ 9223372036854775807 := by
 have h1 : IntKind.i64.min = -9223372036854775808 := rfl
 have h2 : IntKind.i64.max = 9223372036854775807 := rfl
 simp only [Lit.wf, Bool.and_eq_true, decide_eq_true_eq] at h
 omega
end Go.Proofs.YtiacdohaiidehaaGreatDoor
