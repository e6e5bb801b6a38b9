/- The walk of package desc's Read, from the descriptor's head on. -/
import Derived.Test.YtdpbcfjfnclpiaaDoorPk10
import Derived.Test.YtdpbcfjfnclpiaaDoorPk03
import Derived.Test.YtdpbcfjfnclpiaaDoorPk11
import Derived.Deep.DeepCutAuto
import Derived.Laws.Cover3
namespace Go.Proofs.YtdpbcfjfnclpiaaDoor
set_option linter.unusedSimpArgs false
set_option linter.unusedVariables false
open Go.RowKit
def ReadPost (w : World) (t c b : Int) (l : List Wd) (who : Int) (y : Ending) (w' : World) : Prop := (∃ r, w' = ext w r) ∧ match (readN t c b l who).2 with
 | none => y = .returned (.tuple #[.agg #[.int .i64 0, .int .i64 0, .int .i64 0, .slice none 0 0], .int .i64 (readN t c b l who).1])
 | some (seq, st, es) => ∃ v', y = .returned (.tuple #[.agg #[.int .i64 who, .int .i64 seq, .int .i64 st, v'], .int .i64 0]) ∧ Es w' v' es
def readT (t c b who s2 s1 : Int) : Option (List En) → Int × Option (Int × Int × List En)
 | some es => if dcheckN t c b who s2 s1 es = 0 then (0, some (s2, s1, es)) else (5, none)
 | none => (5, none)
theorem unpackTo_none {l : List Wd} {p j : Nat} (h : unpackTo l p j = none) : ∀ m, unpackTo l p (j + m) = none
 | 0 => h
 | m + 1 => by rw [Nat.add_succ]; unfold unpackTo; rw [unpackTo_none h m]
theorem Sl.nine {w : World} {bb oo n c : Nat} {l : List Wd} (h : Sl w 3 wdE (.slice (some ⟨bb, oo, none⟩) n c) l) {i : Nat} {x1 x2 x3 y1 y2 y3 z1 z2 z3 : Int} (hx : l[i]? = some (x1, x2, x3)) (hy : l[i + 1]? = some (y1, y2, y3)) (hz : l[i + 2]? = some (z1, z2, z3)) :
 w.cell? ⟨bb, oo + i * 3, none⟩ = some (.int .i64 x1) ∧ w.cell? ⟨bb, oo + i * 3 + 1, none⟩ = some (.int .u32 x2) ∧ w.cell? ⟨bb, oo + i * 3 + 2, none⟩ = some (.int .u32 x3) ∧
 w.cell? ⟨bb, oo + i * 3 + 3, none⟩ = some (.int .i64 y1) ∧ w.cell? ⟨bb, oo + i * 3 + 4, none⟩ = some (.int .u32 y2) ∧ w.cell? ⟨bb, oo + i * 3 + 5, none⟩ = some (.int .u32 y3) ∧
 w.cell? ⟨bb, oo + i * 3 + 6, none⟩ = some (.int .i64 z1) ∧ w.cell? ⟨bb, oo + i * 3 + 7, none⟩ = some (.int .u32 z2) ∧ w.cell? ⟨bb, oo + i * 3 + 8, none⟩ = some (.int .u32 z3) := by
 obtain ⟨_, _, _, ha1, _, hc1⟩ := Sl.at h hx
 cases ha1
 obtain ⟨_, _, _, ha1, _, hc2⟩ := Sl.at h hy
 cases ha1
 obtain ⟨_, _, _, ha1, _, hc3⟩ := Sl.at h hz
 cases ha1
 have e : ∀ (a b : Nat) (v : Value), a = b → w.cell? ⟨bb, a, none⟩ = some v → w.cell? ⟨bb, b, none⟩ = some v := by rintro a b v rfl h; exact h
 exact ⟨e _ _ _ (by omega) (hc1 0 (by omega)), e _ _ _ (by omega) (hc1 1 (by omega)), e _ _ _ (by omega) (hc1 2 (by omega)), e _ _ _ (by omega) (hc2 0 (by omega)), e _ _ _ (by omega) (hc2 1 (by omega)), e _ _ _ (by omega) (hc2 2 (by omega)), e _ _ _ (by omega) (hc3 0 (by omega)), e _ _ _ (by omega) (hc3 1 (by omega)), e _ _ _ (by omega) (hc3 2 (by omega))⟩
theorem Tryd.infoEntry : (Tryd.prog.info? 67).map (fun i => (i.zero, i.size, i.bytes)) = some (some (.agg #[.int .i64 0, .int .i64 0, .int .u32 0, .int .u32 0, .int .i64 0, .bool false]), 6, 40) := by kernel_rfl
theorem es_append_b {ops : Array Oper} {rest : List Oper} {o : Oper} {a : Act} {Q : Exit → Act → World → Prop} {w : World} {base : Nat} {v : Value} {l : List En} (hgd : o.guard = none)
 (s x : Operand) (ho : o.op = .call { callee := .builtin .append, args := #[s, x], argTypes := #[68, 68] })
 (W : World) (hW : Ext W w) (hWb : W.heap.size ≤ base) (hbw : base ≤ w.heap.size) (hs : a.eval s = v) (hown : Own w base 67 6 enE v l)
 (ad : Addr) (m c : Nat) (hx : a.eval x = .slice (some ad) m c) (news : List En) (hm : news.length = m)
 (hnews : ∀ (j : Nat) (u : Value), (news.flatMap enE)[j]? = some u → w.cell? (ad.add j) = some u)
 (hlen : l.length + m ≤ 1000000)
 (h : ∀ v' w', Own w' base 67 6 enE v' (l ++ news) → Ext W w' → Below base w w' → wpList Tryd.prog ops Q rest (a.put o.dst v') w') : wpList Tryd.prog ops Q (o :: rest) a w := by
 obtain ⟨i0, hi, hz0, hz1, hz2⟩ := info_parts Tryd.infoEntry
 exact own_append_b Tryd.underlying68 hi hz0 hz1 hz2 rfl (by decide) enE_len enE_one hgd s x ho W hW hWb hbw hs hown ad m c hx news hm hnews (by unfold maxLen; omega) (by omega) h
theorem unpackTo_ok {l : List Wd} (hok : ∀ a ∈ l, WdOk a) {p : Nat} : ∀ {k : Nat} {es : List En}, unpackTo l p k = some es → ∀ e ∈ es, EnOk e
 | 0, es, h => by simp [unpackTo] at h; subst h; simp
 | k + 1, es, h => by
  unfold unpackTo at h
  split at h
  ·rename_i es' x y z h1 h2 h3 h4
   split at h
   ·rename_i hb
    simp only [Option.some.injEq] at h
    subst h
    intro e he
    rcases List.mem_append.1 he with he | he
    ·exact unpackTo_ok hok h1 e he
    ·rw [List.mem_singleton] at he
     subst he
     have k1 := hok x (List.mem_of_getElem? h2)
     have k2 := hok y (List.mem_of_getElem? h3)
     have k3 := hok z (List.mem_of_getElem? h4)
     obtain ⟨⟨a1, a2⟩, _, _⟩ := k1
     obtain ⟨⟨b1, b2⟩, ⟨b3, b4⟩, ⟨b5, b6⟩⟩ := k2
     obtain ⟨⟨c1, c2⟩, _, _⟩ := k3
     exact ⟨a1, a2, b1, b2, b3, b4, b5, b6, c1, c2⟩
   ·cases h
  ·cases h
set_option maxRecDepth 100000 in
set_option maxHeartbeats 2000000 in
theorem read_good (t c b who : Int) (hw1 : -9223372036854775808 ≤ who) (hw2 : who ≤ 9223372036854775807) (l : List Wd) (v : Value) (w : World) (hs : Szs w) (hv : Sl w 3 wdE v l)
 (hok : ∀ a ∈ l, WdOk a) (h1 : checkN t c b = 0) (h2 : ¬ (l.length : Int) < sizeN t c b) (h3 : (placeN t c b who).2 ≠ 0) (s1 s2 s3 n1 n2 n3 : Int) (hsx : l[(placeN t c b who).1.toNat]? = some (s1, s2, s3)) (hnx : l[(placeN t c b who).1.toNat + 1]? = some (n1, n2, n3)) (hhd : headB (s1, s2, s3) (n1, n2, n3) (placeN t c b who).2 = true) :
 Calls Tryd.prog 63 #[.agg #[.int .i64 t, .int .i64 c, .int .i64 b], v, .int .i64 who] w fun y w' => ReadPost w t c b l who y w' := by
 have HS := hid hs
 have HVl := hid hv
 obtain ⟨a, cp, rfl, ⟨hm, hlc⟩, _⟩ := hv
 have hroom := place_room h3
 obtain ⟨hpb1, hpb2⟩ := place_bd t c b who
 have HRd := hid (show readN t c b l who = _ by
  unfold readN; rw [if_neg (by rintro (h | h); exact h h1; exact h2 h), if_neg h3, hsx, hnx])
 dsimp only at HRd
 obtain ⟨⟨pa, pm⟩, hp⟩ : ∃ p, p = placeN t c b who := ⟨_, rfl⟩
 rw [← hp] at hroom h3 hsx hnx hpb1 hpb2 HRd hhd
 dsimp only at hroom h3 hsx hnx hpb1 hpb2 HRd hhd
 have HHd := hid hhd
 clear hhd
 have HP := hid hp
 obtain ⟨p, rfl⟩ := Int.eq_ofNat_of_zero_le hroom.1
 rw [Int.toNat_natCast] at hsx hnx
 simp only [Int.toNat_natCast] at HRd
 have hpl : p + 1 < l.length := (List.getElem?_eq_some_iff.1 hnx).1
 have hp9 : (p : Int) ≤ 30000 := hpb1.2
 obtain ⟨hm0, hm1⟩ := hpb2
 obtain ⟨g0, bb, oo, hab, hbl, hcs⟩ := Sl.at HVl.out hsx
 obtain ⟨g1, bb', oo', hab', _, hcn⟩ := Sl.at HVl.out hnx
 subst hab
 cases hab'
 have k0 := hcs 0 (by omega)
 have k1 := hcs 1 (by omega)
 have k2 := hcs 2 (by omega)
 have q0 := hcn 0 (by omega)
 have q1 := hcn 1 (by omega)
 have q2 := hcn 2 (by omega)
 simp [wdE] at k0 k1 k2 q0 q1 q2
 have hn0 := hok _ (List.mem_of_getElem? hsx)
 have HOk := hid hok
 clear hok
 have H1 := hid h1
 have H3 := hid h3
 have hbm : (pm == 0) = false := by simpa using h3
 obtain ⟨z, hz⟩ : ∃ z, z = sizeN t c b := ⟨_, rfl⟩
 rw [← hz] at h2 hroom
 have HZ := hid hz
 have HRoom := hid (show (p : Int) + 2 + 3 * pm ≤ (l.length : Int) by omega)
 have hi0 : (0 : Int) ≤ (p : Int) := by omega
 have hi1 : (p : Int) < (l.length : Int) := by omega
 have hi2 : (0 : Int) ≤ (p : Int) + 1 := by omega
 have hi3 : (p : Int) + 1 < (l.length : Int) := by omega
 have ht : ((p : Int) + 1).toNat = p + 1 := by omega
 have hw : IntKind.i64.wrap ((p : Int) + 1) = (p : Int) + 1 := IntWalk.i64_in _ (by omega)
 clear hcs hcn g0 g1 hsx hnx h1 h3 hp hz hroom hpb1
 go_enter Tryd.func63, Tryd.ntmps63
 go_wp2_with fail
 go_call (check_any t c b _ (HS.out.of (by (show Ext _ _; repeat first | (with_reducible first | (refine xH ?_; assumption) | exact xR _ | refine xX ?_ _ | refine xA ?_ _) | refine xD ?_ | refine xN ?_ _ | exact xR _)))) as e w' ⟨rfl, r1, rfl⟩
 rw [H1.out]
 go_wp2_with fail
 go_call (size_any t c b _ (HS.out.of (by (show Ext _ _; repeat first | (with_reducible first | (refine xH ?_; assumption) | exact xR _ | refine xX ?_ _ | refine xA ?_ _) | refine xD ?_ | refine xN ?_ _ | exact xR _)))) as e w' ⟨rfl, r2, rfl⟩
 rw [← HZ.out]
 go_wp2_with fail
 go_call (place_any t c b who hw1 hw2 _ (HS.out.of (by (show Ext _ _; repeat first | (with_reducible first | (refine xH ?_; assumption) | exact xR _ | refine xX ?_ _ | refine xA ?_ _) | refine xD ?_ | refine xN ?_ _ | exact xR _)))) as e w' ⟨rfl, r3, rfl⟩
 rw [← HP.out]
 go_upto_region 6 with fail
 go_cut [10, 11] (fun sx nx wx => ∃ g h : Nat, sx = .pointer (some ⟨g, 0, none⟩) ∧ nx = .pointer (some ⟨h, 0, none⟩) ∧ Blk wx g [.int .i64 s1, .int .u32 s2, .int .u32 s3] ∧ Blk wx h [.int .i64 n1, .int .u32 n2, .int .u32 n3] ∧ Blk wx w.heap.size [.int .i64 t, .int .i64 c, .int .i64 b] ∧ Blk wx (w.heap.size + 1) [.int .i64 0, .int .i64 0, .int .i64 0, .slice none 0 0] ∧ Ext w wx ∧ w.heap.size + 1 < g ∧ w.heap.size + 1 < h)
 case first =>
  refine wp_region_held_drew (S := fun w' => w'.cell? ⟨bb, oo + p * 3, none⟩ = some (.int .i64 s1) ∧ w'.cell? ⟨bb, oo + p * 3 + 1, none⟩ = some (.int .u32 s2) ∧ w'.cell? ⟨bb, oo + p * 3 + 2, none⟩ = some (.int .u32 s3) ∧ w'.cell? ⟨bb, oo + (p + 1) * 3, none⟩ = some (.int .i64 n1) ∧ w'.cell? ⟨bb, oo + (p + 1) * 3 + 1, none⟩ = some (.int .u32 n2) ∧ w'.cell? ⟨bb, oo + (p + 1) * 3 + 2, none⟩ = some (.int .u32 n3)) (by kernel_rfl) (by exact ⟨(show Ext w _ by (show Ext _ _; repeat with_reducible first | (refine xH ?_; assumption) | exact xR _ | refine xX ?_ _ | refine xA ?_ _ | refine xD ?_ | refine xS ?_ (by (try dsimp only); first | omega | (simp; done) | (simp; omega)) _)).cell k0, (show Ext w _ by (show Ext _ _; repeat with_reducible first | (refine xH ?_; assumption) | exact xR _ | refine xX ?_ _ | refine xA ?_ _ | refine xD ?_ | refine xS ?_ (by (try dsimp only); first | omega | (simp; done) | (simp; omega)) _)).cell k1, (show Ext w _ by (show Ext _ _; repeat with_reducible first | (refine xH ?_; assumption) | exact xR _ | refine xX ?_ _ | refine xA ?_ _ | refine xD ?_ | refine xS ?_ (by (try dsimp only); first | omega | (simp; done) | (simp; omega)) _)).cell k2, (show Ext w _ by (show Ext _ _; repeat with_reducible first | (refine xH ?_; assumption) | exact xR _ | refine xX ?_ _ | refine xA ?_ _ | refine xD ?_ | refine xS ?_ (by (try dsimp only); first | omega | (simp; done) | (simp; omega)) _)).cell q0, (show Ext w _ by (show Ext _ _; repeat with_reducible first | (refine xH ?_; assumption) | exact xR _ | refine xX ?_ _ | refine xA ?_ _ | refine xD ?_ | refine xS ?_ (by (try dsimp only); first | omega | (simp; done) | (simp; omega)) _)).cell q1, (show Ext w _ by (show Ext _ _; repeat with_reducible first | (refine xH ?_; assumption) | exact xR _ | refine xX ?_ _ | refine xA ?_ _ | refine xD ?_ | refine xS ?_ (by (try dsimp only); first | omega | (simp; done) | (simp; omega)) _)).cell q2⟩) (fun hHeld => ?_)
  refine take_met 0 (oi := ⟨_, _, _, _, _, _⟩) (v := ?_) (by kernel_rfl) rfl (by rfl) (fun _ _ _ h => h) (by assumption) ?_ ?_
  rotate_left 1
  ·intro w hSw
   try dsimp only at hSw
   go_simp
   try with_reducible rfl
  (try simp only [Act.put, pA, pB, pC])
  refine take_met 1 (oi := ⟨_, _, _, _, _, _⟩) (v := ?_) (by kernel_rfl) rfl (by rfl) (fun _ _ _ h => h) (by assumption) ?_ ?_
  rotate_left 1
  ·intro w hSw
   try dsimp only at hSw
   go_simp
   try with_reducible rfl
  (try simp only [Act.put, pA, pB, pC])
  refine take_met 2 (oi := ⟨_, _, _, _, _, _⟩) (v := ?_) (by kernel_rfl) rfl (by rfl) (fun _ _ _ h => h) (by assumption) ?_ ?_
  rotate_left 1
  ·intro w hSw
   try dsimp only at hSw
   go_simp
   try with_reducible rfl
  (try simp only [Act.put, pA, pB, pC])
  refine take_met 3 (oi := ⟨_, _, _, _, _, _⟩) (v := ?_) (by kernel_rfl) rfl (by rfl) (fun _ _ _ h => h) (by assumption) ?_ ?_
  rotate_left 1
  ·intro w hSw
   try dsimp only at hSw
   go_simp
   try with_reducible rfl
  (try simp only [Act.put, pA, pB, pC])
  refine take_met 4 (oi := ⟨_, _, _, _, _, _⟩) (v := ?_) (by kernel_rfl) rfl (by rfl) (fun _ _ _ h => h) (by assumption) ?_ ?_
  rotate_left 1
  ·intro w hSw
   try dsimp only at hSw
   go_simp
   try with_reducible rfl
  (try simp only [Act.put, pA, pB, pC])
  refine take_met 5 (oi := ⟨_, _, _, _, _, _⟩) (v := ?_) (by kernel_rfl) rfl (by rfl) (fun _ _ _ h => h) (by assumption) ?_ ?_
  rotate_left 1
  ·intro w hSw
   try dsimp only at hSw
   go_simp
   try with_reducible rfl
  (try simp only [Act.put, pA, pB, pC])
  refine take_met 6 (oi := ⟨_, _, _, _, _, _⟩) (v := ?_) (by kernel_rfl) rfl (by rfl) (fun _ _ _ h => h) (by assumption) ?_ ?_
  rotate_left 1
  ·intro w hSw
   try dsimp only at hSw
   go_simp
   try with_reducible rfl
  (try simp only [Act.put, pA, pB, pC])
  refine take_met 7 (oi := ⟨_, _, _, _, _, _⟩) (v := ?_) (by kernel_rfl) rfl (by rfl) (fun _ _ _ h => h) (by assumption) ?_ ?_
  rotate_left 1
  ·intro w hSw
   try dsimp only at hSw
   go_simp
   try with_reducible rfl
  (try simp only [Act.put, pA, pB, pC])
  refine take_met 8 (oi := ⟨_, _, _, _, _, _⟩) (v := ?_) (by kernel_rfl) rfl (by rfl) (fun _ _ _ h => h) (by assumption) ?_ ?_
  rotate_left 1
  ·intro w hSw
   try dsimp only at hSw
   go_simp
   try with_reducible rfl
  (try simp only [Act.put, pA, pB, pC])
  refine wpAnyH_ready (rs := [9, 10]) (by kernel_rfl) (by simp) ?_
  refine AllReadyH.cons (o := ⟨_, _, _, _, _, _⟩) rfl (fun K hK => ?_) ?_
  ·skip
   go_simp
   have hOld := hHeld
   clear hHeld
   refine hK.out _ _ (by exact ⟨(show Ext w _ by (show Ext _ _; repeat with_reducible first | (refine xH ?_; assumption) | exact xR _ | refine xX ?_ _ | refine xA ?_ _ | refine xD ?_ | refine xS ?_ (by (try dsimp only); first | omega | (simp; done) | (simp; omega)) _)).cell k0, (show Ext w _ by (show Ext _ _; repeat with_reducible first | (refine xH ?_; assumption) | exact xR _ | refine xX ?_ _ | refine xA ?_ _ | refine xD ?_ | refine xS ?_ (by (try dsimp only); first | omega | (simp; done) | (simp; omega)) _)).cell k1, (show Ext w _ by (show Ext _ _; repeat with_reducible first | (refine xH ?_; assumption) | exact xR _ | refine xX ?_ _ | refine xA ?_ _ | refine xD ?_ | refine xS ?_ (by (try dsimp only); first | omega | (simp; done) | (simp; omega)) _)).cell k2, (show Ext w _ by (show Ext _ _; repeat with_reducible first | (refine xH ?_; assumption) | exact xR _ | refine xX ?_ _ | refine xA ?_ _ | refine xD ?_ | refine xS ?_ (by (try dsimp only); first | omega | (simp; done) | (simp; omega)) _)).cell q0, (show Ext w _ by (show Ext _ _; repeat with_reducible first | (refine xH ?_; assumption) | exact xR _ | refine xX ?_ _ | refine xA ?_ _ | refine xD ?_ | refine xS ?_ (by (try dsimp only); first | omega | (simp; done) | (simp; omega)) _)).cell q1, (show Ext w _ by (show Ext _ _; repeat with_reducible first | (refine xH ?_; assumption) | exact xR _ | refine xX ?_ _ | refine xA ?_ _ | refine xD ?_ | refine xS ?_ (by (try dsimp only); first | omega | (simp; done) | (simp; omega)) _)).cell q2⟩) (fun hHeld => ?_)
   clear hOld hK K
   (try simp only [Act.put, pA, pB, pC])
   refine take_only 10 (oi := ⟨_, _, _, _, _, _⟩) (by kernel_rfl) rfl (fun K hK => ?_)
   go_simp
   have hOld := hHeld
   clear hHeld
   refine hK.out _ _ (by exact ⟨(show Ext w _ by (show Ext _ _; repeat with_reducible first | (refine xH ?_; assumption) | exact xR _ | refine xX ?_ _ | refine xA ?_ _ | refine xD ?_ | refine xS ?_ (by (try dsimp only); first | omega | (simp; done) | (simp; omega)) _)).cell k0, (show Ext w _ by (show Ext _ _; repeat with_reducible first | (refine xH ?_; assumption) | exact xR _ | refine xX ?_ _ | refine xA ?_ _ | refine xD ?_ | refine xS ?_ (by (try dsimp only); first | omega | (simp; done) | (simp; omega)) _)).cell k1, (show Ext w _ by (show Ext _ _; repeat with_reducible first | (refine xH ?_; assumption) | exact xR _ | refine xX ?_ _ | refine xA ?_ _ | refine xD ?_ | refine xS ?_ (by (try dsimp only); first | omega | (simp; done) | (simp; omega)) _)).cell k2, (show Ext w _ by (show Ext _ _; repeat with_reducible first | (refine xH ?_; assumption) | exact xR _ | refine xX ?_ _ | refine xA ?_ _ | refine xD ?_ | refine xS ?_ (by (try dsimp only); first | omega | (simp; done) | (simp; omega)) _)).cell q0, (show Ext w _ by (show Ext _ _; repeat with_reducible first | (refine xH ?_; assumption) | exact xR _ | refine xX ?_ _ | refine xA ?_ _ | refine xD ?_ | refine xS ?_ (by (try dsimp only); first | omega | (simp; done) | (simp; omega)) _)).cell q1, (show Ext w _ by (show Ext _ _; repeat with_reducible first | (refine xH ?_; assumption) | exact xR _ | refine xX ?_ _ | refine xA ?_ _ | refine xD ?_ | refine xS ?_ (by (try dsimp only); first | omega | (simp; done) | (simp; omega)) _)).cell q2⟩) (fun hHeld => ?_)
   clear hOld hK K
   (try simp only [Act.put, pA, pB, pC])
   refine take_only 11 (oi := ⟨_, _, _, _, _, _⟩) (by kernel_rfl) rfl (fun K hK => ?_)
   go_simp
   have hOld := hHeld
   clear hHeld
   refine hK.out _ _ (by exact ⟨(show Ext w _ by (show Ext _ _; repeat with_reducible first | (refine xH ?_; assumption) | exact xR _ | refine xX ?_ _ | refine xA ?_ _ | refine xD ?_ | refine xS ?_ (by (try dsimp only); first | omega | (simp; done) | (simp; omega)) _)).cell k0, (show Ext w _ by (show Ext _ _; repeat with_reducible first | (refine xH ?_; assumption) | exact xR _ | refine xX ?_ _ | refine xA ?_ _ | refine xD ?_ | refine xS ?_ (by (try dsimp only); first | omega | (simp; done) | (simp; omega)) _)).cell k1, (show Ext w _ by (show Ext _ _; repeat with_reducible first | (refine xH ?_; assumption) | exact xR _ | refine xX ?_ _ | refine xA ?_ _ | refine xD ?_ | refine xS ?_ (by (try dsimp only); first | omega | (simp; done) | (simp; omega)) _)).cell k2, (show Ext w _ by (show Ext _ _; repeat with_reducible first | (refine xH ?_; assumption) | exact xR _ | refine xX ?_ _ | refine xA ?_ _ | refine xD ?_ | refine xS ?_ (by (try dsimp only); first | omega | (simp; done) | (simp; omega)) _)).cell q0, (show Ext w _ by (show Ext _ _; repeat with_reducible first | (refine xH ?_; assumption) | exact xR _ | refine xX ?_ _ | refine xA ?_ _ | refine xD ?_ | refine xS ?_ (by (try dsimp only); first | omega | (simp; done) | (simp; omega)) _)).cell q1, (show Ext w _ by (show Ext _ _; repeat with_reducible first | (refine xH ?_; assumption) | exact xR _ | refine xX ?_ _ | refine xA ?_ _ | refine xD ?_ | refine xS ?_ (by (try dsimp only); first | omega | (simp; done) | (simp; omega)) _)).cell q2⟩) (fun hHeld => ?_)
   clear hOld hK K
   (try simp only [Act.put, pA, pB, pC])
   refine take_only 12 (oi := ⟨_, _, _, _, _, _⟩) (by kernel_rfl) rfl (fun K hK => ?_)
   go_simp
   have hOld := hHeld
   clear hHeld
   refine hK.out _ _ (by exact ⟨(show Ext w _ by (show Ext _ _; repeat with_reducible first | (refine xH ?_; assumption) | exact xR _ | refine xX ?_ _ | refine xA ?_ _ | refine xD ?_ | refine xS ?_ (by (try dsimp only); first | omega | (simp; done) | (simp; omega)) _)).cell k0, (show Ext w _ by (show Ext _ _; repeat with_reducible first | (refine xH ?_; assumption) | exact xR _ | refine xX ?_ _ | refine xA ?_ _ | refine xD ?_ | refine xS ?_ (by (try dsimp only); first | omega | (simp; done) | (simp; omega)) _)).cell k1, (show Ext w _ by (show Ext _ _; repeat with_reducible first | (refine xH ?_; assumption) | exact xR _ | refine xX ?_ _ | refine xA ?_ _ | refine xD ?_ | refine xS ?_ (by (try dsimp only); first | omega | (simp; done) | (simp; omega)) _)).cell k2, (show Ext w _ by (show Ext _ _; repeat with_reducible first | (refine xH ?_; assumption) | exact xR _ | refine xX ?_ _ | refine xA ?_ _ | refine xD ?_ | refine xS ?_ (by (try dsimp only); first | omega | (simp; done) | (simp; omega)) _)).cell q0, (show Ext w _ by (show Ext _ _; repeat with_reducible first | (refine xH ?_; assumption) | exact xR _ | refine xX ?_ _ | refine xA ?_ _ | refine xD ?_ | refine xS ?_ (by (try dsimp only); first | omega | (simp; done) | (simp; omega)) _)).cell q1, (show Ext w _ by (show Ext _ _; repeat with_reducible first | (refine xH ?_; assumption) | exact xR _ | refine xX ?_ _ | refine xA ?_ _ | refine xD ?_ | refine xS ?_ (by (try dsimp only); first | omega | (simp; done) | (simp; omega)) _)).cell q2⟩) (fun hHeld => ?_)
   clear hOld hK K
   (try simp only [Act.put, pA, pB, pC])
   refine wpAnyH_done (by kernel_rfl) ?_ _
   go_wp2_with fail
   go_meet
   exact ⟨_, _, rfl, rfl, by (show Blk _ _ _; repeat first | (with_reducible first | (refine xH ?_; assumption) | refine bD ?_ | refine bX ?_ _) | (with_reducible refine bN _ _ rfl ?_; first | with_reducible rfl | (simp; done)) | (with_reducible first | refine bA ?_ _ | assumption | apply bS) | (with_reducible refine bO ?_ ?_; first | omega | (simp; omega)) | (show List.set _ _ _ = _; exact rfl) | (show _ < List.length _; simp; done)), by (show Blk _ _ _; repeat first | (with_reducible first | (refine xH ?_; assumption) | refine bD ?_ | refine bX ?_ _) | (with_reducible refine bN _ _ rfl ?_; first | with_reducible rfl | (simp; done)) | (with_reducible first | refine bA ?_ _ | assumption | apply bS) | (with_reducible refine bO ?_ ?_; first | omega | (simp; omega)) | (show List.set _ _ _ = _; exact rfl) | (show _ < List.length _; simp; done)), by (show Blk _ _ _; repeat first | (with_reducible first | (refine xH ?_; assumption) | refine bD ?_ | refine bX ?_ _) | (with_reducible refine bN _ _ rfl ?_; first | with_reducible rfl | (simp; done)) | (with_reducible first | refine bA ?_ _ | assumption | apply bS) | (with_reducible refine bO ?_ ?_; first | omega | (simp; omega)) | (show List.set _ _ _ = _; exact rfl) | (show _ < List.length _; simp; done)), by (show Blk _ _ _; repeat first | (with_reducible first | (refine xH ?_; assumption) | refine bD ?_ | refine bX ?_ _) | (with_reducible refine bN _ _ rfl ?_; first | with_reducible rfl | (simp; done)) | (with_reducible first | refine bA ?_ _ | assumption | apply bS) | (with_reducible refine bO ?_ ?_; first | omega | (simp; omega)) | (show List.set _ _ _ = _; exact rfl) | (show _ < List.length _; simp; done)), by (show Ext _ _; repeat first | (with_reducible first | (refine xH ?_; assumption) | exact xR _ | refine xX ?_ _ | refine xA ?_ _) | refine xD ?_ | refine xN ?_ _ | exact xR _), by omega, by omega⟩
  refine AllReadyH.cons (o := ⟨_, _, _, _, _, _⟩) rfl (fun K hK => ?_) AllReadyH.nil
  go_simp
  have hOld := hHeld
  clear hHeld
  refine hK.out _ _ (by exact ⟨(show Ext w _ by (show Ext _ _; repeat with_reducible first | (refine xH ?_; assumption) | exact xR _ | refine xX ?_ _ | refine xA ?_ _ | refine xD ?_ | refine xS ?_ (by (try dsimp only); first | omega | (simp; done) | (simp; omega)) _)).cell k0, (show Ext w _ by (show Ext _ _; repeat with_reducible first | (refine xH ?_; assumption) | exact xR _ | refine xX ?_ _ | refine xA ?_ _ | refine xD ?_ | refine xS ?_ (by (try dsimp only); first | omega | (simp; done) | (simp; omega)) _)).cell k1, (show Ext w _ by (show Ext _ _; repeat with_reducible first | (refine xH ?_; assumption) | exact xR _ | refine xX ?_ _ | refine xA ?_ _ | refine xD ?_ | refine xS ?_ (by (try dsimp only); first | omega | (simp; done) | (simp; omega)) _)).cell k2, (show Ext w _ by (show Ext _ _; repeat with_reducible first | (refine xH ?_; assumption) | exact xR _ | refine xX ?_ _ | refine xA ?_ _ | refine xD ?_ | refine xS ?_ (by (try dsimp only); first | omega | (simp; done) | (simp; omega)) _)).cell q0, (show Ext w _ by (show Ext _ _; repeat with_reducible first | (refine xH ?_; assumption) | exact xR _ | refine xX ?_ _ | refine xA ?_ _ | refine xD ?_ | refine xS ?_ (by (try dsimp only); first | omega | (simp; done) | (simp; omega)) _)).cell q1, (show Ext w _ by (show Ext _ _; repeat with_reducible first | (refine xH ?_; assumption) | exact xR _ | refine xX ?_ _ | refine xA ?_ _ | refine xD ?_ | refine xS ?_ (by (try dsimp only); first | omega | (simp; done) | (simp; omega)) _)).cell q2⟩) (fun hHeld => ?_)
  clear hOld hK K
  (try simp only [Act.put, pA, pB, pC])
  refine take_only 9 (oi := ⟨_, _, _, _, _, _⟩) (by kernel_rfl) rfl (fun K hK => ?_)
  go_simp
  have hOld := hHeld
  clear hHeld
  refine hK.out _ _ (by exact ⟨(show Ext w _ by (show Ext _ _; repeat with_reducible first | (refine xH ?_; assumption) | exact xR _ | refine xX ?_ _ | refine xA ?_ _ | refine xD ?_ | refine xS ?_ (by (try dsimp only); first | omega | (simp; done) | (simp; omega)) _)).cell k0, (show Ext w _ by (show Ext _ _; repeat with_reducible first | (refine xH ?_; assumption) | exact xR _ | refine xX ?_ _ | refine xA ?_ _ | refine xD ?_ | refine xS ?_ (by (try dsimp only); first | omega | (simp; done) | (simp; omega)) _)).cell k1, (show Ext w _ by (show Ext _ _; repeat with_reducible first | (refine xH ?_; assumption) | exact xR _ | refine xX ?_ _ | refine xA ?_ _ | refine xD ?_ | refine xS ?_ (by (try dsimp only); first | omega | (simp; done) | (simp; omega)) _)).cell k2, (show Ext w _ by (show Ext _ _; repeat with_reducible first | (refine xH ?_; assumption) | exact xR _ | refine xX ?_ _ | refine xA ?_ _ | refine xD ?_ | refine xS ?_ (by (try dsimp only); first | omega | (simp; done) | (simp; omega)) _)).cell q0, (show Ext w _ by (show Ext _ _; repeat with_reducible first | (refine xH ?_; assumption) | exact xR _ | refine xX ?_ _ | refine xA ?_ _ | refine xD ?_ | refine xS ?_ (by (try dsimp only); first | omega | (simp; done) | (simp; omega)) _)).cell q1, (show Ext w _ by (show Ext _ _; repeat with_reducible first | (refine xH ?_; assumption) | exact xR _ | refine xX ?_ _ | refine xA ?_ _ | refine xD ?_ | refine xS ?_ (by (try dsimp only); first | omega | (simp; done) | (simp; omega)) _)).cell q2⟩) (fun hHeld => ?_)
  clear hOld hK K
  (try simp only [Act.put, pA, pB, pC])
  refine take_only 11 (oi := ⟨_, _, _, _, _, _⟩) (by kernel_rfl) rfl (fun K hK => ?_)
  go_simp
  have hOld := hHeld
  clear hHeld
  refine hK.out _ _ (by exact ⟨(show Ext w _ by (show Ext _ _; repeat with_reducible first | (refine xH ?_; assumption) | exact xR _ | refine xX ?_ _ | refine xA ?_ _ | refine xD ?_ | refine xS ?_ (by (try dsimp only); first | omega | (simp; done) | (simp; omega)) _)).cell k0, (show Ext w _ by (show Ext _ _; repeat with_reducible first | (refine xH ?_; assumption) | exact xR _ | refine xX ?_ _ | refine xA ?_ _ | refine xD ?_ | refine xS ?_ (by (try dsimp only); first | omega | (simp; done) | (simp; omega)) _)).cell k1, (show Ext w _ by (show Ext _ _; repeat with_reducible first | (refine xH ?_; assumption) | exact xR _ | refine xX ?_ _ | refine xA ?_ _ | refine xD ?_ | refine xS ?_ (by (try dsimp only); first | omega | (simp; done) | (simp; omega)) _)).cell k2, (show Ext w _ by (show Ext _ _; repeat with_reducible first | (refine xH ?_; assumption) | exact xR _ | refine xX ?_ _ | refine xA ?_ _ | refine xD ?_ | refine xS ?_ (by (try dsimp only); first | omega | (simp; done) | (simp; omega)) _)).cell q0, (show Ext w _ by (show Ext _ _; repeat with_reducible first | (refine xH ?_; assumption) | exact xR _ | refine xX ?_ _ | refine xA ?_ _ | refine xD ?_ | refine xS ?_ (by (try dsimp only); first | omega | (simp; done) | (simp; omega)) _)).cell q1, (show Ext w _ by (show Ext _ _; repeat with_reducible first | (refine xH ?_; assumption) | exact xR _ | refine xX ?_ _ | refine xA ?_ _ | refine xD ?_ | refine xS ?_ (by (try dsimp only); first | omega | (simp; done) | (simp; omega)) _)).cell q2⟩) (fun hHeld => ?_)
  clear hOld hK K
  (try simp only [Act.put, pA, pB, pC])
  refine take_only 12 (oi := ⟨_, _, _, _, _, _⟩) (by kernel_rfl) rfl (fun K hK => ?_)
  go_simp
  have hOld := hHeld
  clear hHeld
  refine hK.out _ _ (by exact ⟨(show Ext w _ by (show Ext _ _; repeat with_reducible first | (refine xH ?_; assumption) | exact xR _ | refine xX ?_ _ | refine xA ?_ _ | refine xD ?_ | refine xS ?_ (by (try dsimp only); first | omega | (simp; done) | (simp; omega)) _)).cell k0, (show Ext w _ by (show Ext _ _; repeat with_reducible first | (refine xH ?_; assumption) | exact xR _ | refine xX ?_ _ | refine xA ?_ _ | refine xD ?_ | refine xS ?_ (by (try dsimp only); first | omega | (simp; done) | (simp; omega)) _)).cell k1, (show Ext w _ by (show Ext _ _; repeat with_reducible first | (refine xH ?_; assumption) | exact xR _ | refine xX ?_ _ | refine xA ?_ _ | refine xD ?_ | refine xS ?_ (by (try dsimp only); first | omega | (simp; done) | (simp; omega)) _)).cell k2, (show Ext w _ by (show Ext _ _; repeat with_reducible first | (refine xH ?_; assumption) | exact xR _ | refine xX ?_ _ | refine xA ?_ _ | refine xD ?_ | refine xS ?_ (by (try dsimp only); first | omega | (simp; done) | (simp; omega)) _)).cell q0, (show Ext w _ by (show Ext _ _; repeat with_reducible first | (refine xH ?_; assumption) | exact xR _ | refine xX ?_ _ | refine xA ?_ _ | refine xD ?_ | refine xS ?_ (by (try dsimp only); first | omega | (simp; done) | (simp; omega)) _)).cell q1, (show Ext w _ by (show Ext _ _; repeat with_reducible first | (refine xH ?_; assumption) | exact xR _ | refine xX ?_ _ | refine xA ?_ _ | refine xD ?_ | refine xS ?_ (by (try dsimp only); first | omega | (simp; done) | (simp; omega)) _)).cell q2⟩) (fun hHeld => ?_)
  clear hOld hK K
  (try simp only [Act.put, pA, pB, pC])
  refine wpAnyH_done (by kernel_rfl) ?_ _
  go_wp2_with fail
  go_meet
  exact ⟨_, _, rfl, rfl, by (show Blk _ _ _; repeat first | (with_reducible first | (refine xH ?_; assumption) | refine bD ?_ | refine bX ?_ _) | (with_reducible refine bN _ _ rfl ?_; first | with_reducible rfl | (simp; done)) | (with_reducible first | refine bA ?_ _ | assumption | apply bS) | (with_reducible refine bO ?_ ?_; first | omega | (simp; omega)) | (show List.set _ _ _ = _; exact rfl) | (show _ < List.length _; simp; done)), by (show Blk _ _ _; repeat first | (with_reducible first | (refine xH ?_; assumption) | refine bD ?_ | refine bX ?_ _) | (with_reducible refine bN _ _ rfl ?_; first | with_reducible rfl | (simp; done)) | (with_reducible first | refine bA ?_ _ | assumption | apply bS) | (with_reducible refine bO ?_ ?_; first | omega | (simp; omega)) | (show List.set _ _ _ = _; exact rfl) | (show _ < List.length _; simp; done)), by (show Blk _ _ _; repeat first | (with_reducible first | (refine xH ?_; assumption) | refine bD ?_ | refine bX ?_ _) | (with_reducible refine bN _ _ rfl ?_; first | with_reducible rfl | (simp; done)) | (with_reducible first | refine bA ?_ _ | assumption | apply bS) | (with_reducible refine bO ?_ ?_; first | omega | (simp; omega)) | (show List.set _ _ _ = _; exact rfl) | (show _ < List.length _; simp; done)), by (show Blk _ _ _; repeat first | (with_reducible first | (refine xH ?_; assumption) | refine bD ?_ | refine bX ?_ _) | (with_reducible refine bN _ _ rfl ?_; first | with_reducible rfl | (simp; done)) | (with_reducible first | refine bA ?_ _ | assumption | apply bS) | (with_reducible refine bO ?_ ?_; first | omega | (simp; omega)) | (show List.set _ _ _ = _; exact rfl) | (show _ < List.length _; simp; done)), by (show Ext _ _; repeat first | (with_reducible first | (refine xH ?_; assumption) | exact xR _ | refine xX ?_ _ | refine xA ?_ _) | refine xD ?_ | refine xN ?_ _ | exact xR _), by omega, by omega⟩
 case rest =>
  obtain ⟨g, h, rfl, rfl, hbg, hbh, hb3, hb6, hex, hlg, hlh⟩ := hcut
  clear hi0 hi1 hi2 hi3 ht hw k0 k1 k2 q0 q1 q2
  have a0 := hbg.2.2 0 _ rfl
  have a1 := hbg.2.2 1 _ rfl
  have a2 := hbg.2.2 2 _ rfl
  have c0 := hbh.2.2 0 _ rfl
  have c1 := hbh.2.2 1 _ rfl
  have c2 := hbh.2.2 2 _ rfl
  have e0 := hb6.2.2 0 _ rfl
  have e1 := hb6.2.2 1 _ rfl
  have e2 := hb6.2.2 2 _ rfl
  have e3 := hb6.2.2 3 _ rfl
  have e4 := hb6.2.1 0
  have e5 := hb6.2.1 1
  have e6 := hb6.2.1 2
  have e7 := hb6.2.1 3
  have g1 := hbg.1
  have g2 := hbh.1
  have g3 := hb3.1
  have g4 := hb6.1
  have hna := neq_word n1 n2 n3 n1 0 0
  have hga := eq_guard_word
  have HB6 := hid hb6
  have HB3 := hid hb3
  have HEx := hid hex
  have HNa := hid hna
  clear hb3 hb6 hbg hbh hex hna
  have HN := hid hn0
  clear hn0
  have hhd := HHd.out
  obtain ⟨⟨⟨y1, y2⟩, y3⟩, y4, y5, y6⟩ : ((0 ≤ s1 ∧ s1 ≤ 3) ∧ s3 = 0) ∧ 1 ≤ n1 ∧ n1 ≤ pm ∧ (n1, n2, n3) = (n1, 0, 0) := by
   simp only [headB, wdB, Bool.and_eq_true, decide_eq_true_eq] at hhd
   exact ⟨⟨hhd.1, hhd.2.1.1⟩, hhd.2.1.2.1, hhd.2.1.2.2, hhd.2.2⟩
  simp only [Prod.mk.injEq, true_and] at y6
  obtain ⟨rfl, rfl⟩ := y6
  subst y3
  obtain ⟨⟨_, _⟩, ⟨y7, y8⟩, _⟩ := HN.out
  dsimp only at y7 y8
  obtain ⟨k, rfl⟩ := Int.eq_ofNat_of_zero_le (show 0 ≤ n1 by omega)
  have hne := HNa.out
  rw [wdB_self] at hne
  have HK := hid (show readN t c b l who = readT t c b who s2 s1 (unpackTo l (p + 2) k) by rw [HRd.out, if_pos hhd, Int.toNat_natCast]; rfl)
  have y9 : ¬ s1 < 0 := by omega
  have y10 : ¬ 3 < s1 := by omega
  have y11 : ¬ (k : Int) < 1 := by omega
  have y12 : ¬ pm < (k : Int) := by omega
  clear HRd hhd HHd
  go_wp2_with fail
  have hpk : (p : Int) + 2 + 3 * (k : Int) ≤ (l.length : Int) := by have := HRoom.out; omega
  have HD := hid (show Blk (wc.alloc (.cells #[.int .i64 who, .int .i64 s2, .int .i64 s1, .slice none 0 0] 70)) wc.heap.size [.int .i64 who, .int .i64 s2, .int .i64 s1, .slice none 0 0] by (show Blk _ _ _; repeat first | (with_reducible first | (refine xH ?_; assumption) | refine bD ?_ | refine bX ?_ _) | (with_reducible refine bN _ _ rfl ?_; first | with_reducible rfl | (simp; done)) | (with_reducible first | refine bA ?_ _ | assumption | apply bS) | (with_reducible refine bO ?_ ?_; first | omega | (simp; omega)) | (show List.set _ _ _ = _; exact rfl) | (show _ < List.length _; simp; done)))
  go_loopw [87] (fun i wr => ∃ j : Nat, j ≤ k ∧ i = .int .i64 j ∧ ∃ es vv, Hid (unpackTo l (p + 2) j = some es) ∧ Hid (Blk wr w.heap.size [.int .i64 t, .int .i64 c, .int .i64 b]) ∧ Hid (Blk wr (w.heap.size + 1) [.int .i64 0, .int .i64 0, .int .i64 0, .slice none 0 0]) ∧ Hid (Blk wr wc.heap.size [.int .i64 who, .int .i64 s2, .int .i64 s1, vv]) ∧ Hid (Own wr (wc.heap.size + 1) 67 6 enE vv es) ∧ Hid (Ext w wr)) (fun i _ => k - (intOf i).toNat)
  case atStart => exact ⟨0, by omega, rfl, [], _, hid rfl, hid (HB3.out.alloc _), hid (HB6.out.alloc _), HD, hid Own.nil, hid (by (show Ext _ _; repeat first | (with_reducible first | (refine xH ?_; assumption) | exact xR _ | refine xX ?_ _ | refine xA ?_ _) | refine xD ?_ | refine xN ?_ _ | exact xR _))⟩
  case round =>
   clear HD HB3 HB6 a0 a1 a2 c0 c1 c2 e0 e1 e2 e3 e4 e5 e6 e7 hne
   obtain ⟨j, hj, rfl, es, vv, HU, HB3, HB6, HBD, HO, HX⟩ := hrel
   have d0 := HB6.out.2.2 0 _ rfl
   have d1 := HB6.out.2.2 1 _ rfl
   have d2 := HB6.out.2.2 2 _ rfl
   have d3 := HB6.out.2.2 3 _ rfl
   have d4 := HB6.out.2.1 0
   have d5 := HB6.out.2.1 1
   have d6 := HB6.out.2.1 2
   have d7 := HB6.out.2.1 3
   have f0 := HBD.out.2.2 0 _ rfl
   have f1 := HBD.out.2.2 1 _ rfl
   have f2 := HBD.out.2.2 2 _ rfl
   have f3 := HBD.out.2.2 3 _ rfl
   have f7 := HBD.out.2.1 3
   have n1 := HB6.out.1
   have n2 := HBD.out.1
   by_cases hjk : j < k
   ·have hjk2 : ((j : Int) < (k : Int)) = True := by simp [hjk]
    obtain ⟨x, hx⟩ : ∃ x, l[p + 2 + 3 * j]? = some x := ⟨l[p + 2 + 3 * j]'(by omega), List.getElem?_eq_getElem _⟩
    obtain ⟨y, hy⟩ : ∃ y, l[p + 2 + 3 * j + 1]? = some y := ⟨l[p + 2 + 3 * j + 1]'(by omega), List.getElem?_eq_getElem _⟩
    obtain ⟨z, hz⟩ : ∃ z, l[p + 2 + 3 * j + 2]? = some z := ⟨l[p + 2 + 3 * j + 2]'(by omega), List.getElem?_eq_getElem _⟩
    have HUn := hid (show unpackTo l (p + 2) (j + 1) = if unpackB x y z = true then some (es ++ [unpackE x y z]) else none by
     rw [unpackTo, HU.out, hx, hy, hz])
    obtain ⟨x1, x2, x3⟩ := x
    obtain ⟨y1, y2, y3⟩ := y
    obtain ⟨z1, z2, z3⟩ := z
    obtain ⟨m0, m1, m2, m3, m4, m5, m6, m7, m8⟩ := Sl.nine (HVl.out.of wdE_len HX.out) hx hy hz
    have hk32 : (k : Int) ≤ 32 := by omega
    have hjj : (j : Int) < (k : Int) := by omega
    have b0 : (0 : Int) ≤ (p : Int) + 2 + 3 * (j : Int) := by omega
    have b1 : (p : Int) + 2 + 3 * (j : Int) + 3 ≤ (cp : Int) := by omega
    have b3 : ((p : Int) + 2 + 3 * (j : Int)).toNat = p + 2 + 3 * j := by omega
    have b4 : ((p : Int) + 2 + 3 * (j : Int) + 3).toNat = p + 2 + 3 * j + 3 := by omega
    clear hx hy hz
    have har : ∀ (a : Option Addr) (c : Nat) (w : World), (Instr.arrayAt 95 (.slice a 3 c)).run Tryd.prog w = .ok (.pointer a) w := fun a c w => run_arrayAt w _ _ 3 a 3 c Tryd.underlying95 (by omega)
    have hbw := Nat.lt_of_lt_of_le hbl HX.out.size
    cases hU : unpackB (x1, x2, x3) (y1, y2, y3) (z1, z2, z3)
    ·have HUF := hid hU
     have HR := hid (show readN t c b l who = (5, none) by
      rw [HK.out]
      have hn : unpackTo l (p + 2) (j + 1) = none := by rw [HUn.out, hU]; rfl
      rw [show k = (j + 1) + (k - (j + 1)) by omega, unpackTo_none hn]; rfl)
     clear hU HUn HK HU
     have hE : ReadPost w t c b l who (.returned (.tuple #[.agg #[.int .i64 0, .int .i64 0, .int .i64 0, .slice none 0 0], .int .i64 5])) = fun w' => ∃ r, w' = ext w r := by
      funext w'
      unfold ReadPost
      rw [HR.out]
      simp
     go_wp2_with fail
     refine (unpack_any x1 x2 x3 y1 y2 y3 z1 z2 z3 _).mono ?_
     rintro e w' ⟨rfl, r4, rfl⟩
     rw [HUF.out]
     simp only [Bool.false_eq_true, if_false]
     clear m0 m1 m2 m3 m4 m5 m6 m7 m8 har b0 b1 b3 b4 f0 f1 f2 f3 f7 n2
     (repeat (first | go_values | go_skip | go_guarded | go_step | go_upon | (simp only [Int.not_lt, Int.not_le] at *; go_simp) | (go_ite <;> go_prune <;> (try go_simp))))
     exact bodyPost_ret (v := .tuple #[.agg #[.int .i64 0, .int .i64 0, .int .i64 0, .slice none 0 0], .int .i64 5]) (by simp [results, Tryd.results63, go_sem, d0, d1, d2, d3, n1]) rfl (by rw [hE]; (show Ext _ _; repeat with_reducible first | (refine xH ?_; assumption) | exact xR _ | refine xX ?_ _ | refine xA ?_ _ | refine xD ?_ | refine xS ?_ (by (try dsimp only); first | omega | (simp; done) | (simp; omega)) _))
    ·have HUT := hid hU
     have HUn2 := hid (show unpackTo l (p + 2) (j + 1) = some (es ++ [⟨x1, y1, y2, y3, z1, x2 == 1⟩]) by rw [HUn.out, hU]; rfl)
     have hln := unpackTo_len HU.out
     have HLn := hid (show es.length + 1 ≤ 1000000 by rw [hln]; omega)
     clear hU HUn hln
     go_wp2_with fail
     refine (unpack_any x1 x2 x3 y1 y2 y3 z1 z2 z3 _).mono ?_
     rintro e w' ⟨rfl, r4, rfl⟩
     rw [HUT.out]
     simp only [if_true]
     clear m0 m1 m2 m3 m4 m5 m6 m7 m8 har b0 b1 b3 b4 d0 d1 d2 d3 d4 d5 d6 d7 f0 f1 f2 n1
     go_wp2_with (at_builtin; refine es_append_b rfl _ _ rfl w (by (show Ext _ _; repeat first | (with_reducible first | (refine xH ?_; assumption) | exact xR _ | refine xX ?_ _ | refine xA ?_ _) | refine xD ?_ | refine xN ?_ _ | exact xR _)) (by omega) (by (first | exact Nat.le_refl _ | (simp; done) | (simp; omega))) rfl (Own.alloc (Own.alloc (Own.ext HO.out _) _) _) _ 1 1 rfl [⟨x1, y1, y2, y3, z1, x2 == 1⟩] rfl (news_new rfl _ (by (first | rfl | (simp; done)))) HLn.out ?_; rintro v9 w9 hv9 hX9 hB9; obtain ⟨a9, c9, rfl⟩ := Own.shape hv9; have HB9 := hid hB9; have HX9 := hid hX9; simp only [List.length_append, List.length_cons, List.length_nil, Nat.zero_add] at hv9; have HV9 := hid hv9; have HD9 := hid (Blk.below (((HBD.out.ext _).alloc _).alloc _) (Nat.lt_succ_self _) hB9); clear hB9 hX9 hv9; have q0 := HD9.out.2.2 3 _ rfl; have q1 := HD9.out.2.1 3)
     go_roundw
     case rel => exact ⟨j + 1, by omega, by go_num, _, _, HUn2, hid ((Blk.below (((HB3.out.ext _).alloc _).alloc _) (by omega) HB9.out).other (by omega) _), hid ((Blk.below (((HB6.out.ext _).alloc _).alloc _) (by omega) HB9.out).other (by omega) _), hid (HD9.out.set 3 (by simp) _), hid (HV9.out.under (Nat.lt_succ_self _) _), hid (by (show Ext _ _; repeat with_reducible first | (refine xH ?_; assumption) | exact xR _ | refine xX ?_ _ | refine xA ?_ _ | refine xD ?_ | refine xS ?_ (by (try dsimp only); first | omega | (simp; done) | (simp; omega)) _))⟩
     case measure => simp [intOf]; omega
   ·obtain rfl : k = j := by omega
    have HOK := hid (unpackTo_ok HOk.out HU.out)
    have HL := hid (show readN t c b l who = if dcheckN t c b who s2 s1 es = 0 then (0, some (s2, s1, es)) else (5, none) by rw [HK.out, HU.out]; rfl)
    obtain ⟨av, cv, rfl⟩ := Own.shape HO.out
    have z0 := HB3.out.2.2 0 _ rfl
    have z1 := HB3.out.2.2 1 _ rfl
    have z2 := HB3.out.2.2 2 _ rfl
    have hkk : ¬ ((k : Int) < (k : Int)) := by omega
    clear HK HU hjk hj
    have HS9 := hid (Szs.of HS.out HX.out)
    go_wp2_with fail
    refine (dcheck_any t c b who s2 s1 hw1 hw2 es _ HOK.out _ (HS9.out.of (by (show Ext _ _; repeat first | (with_reducible first | (refine xH ?_; assumption) | exact xR _ | refine xX ?_ _ | refine xA ?_ _) | refine xD ?_ | refine xN ?_ _ | exact xR _))) ((Sl.of_own enE_len HO.out).of enE_len (by (show Ext _ _; repeat first | (with_reducible first | (refine xH ?_; assumption) | exact xR _ | refine xX ?_ _ | refine xA ?_ _) | refine xD ?_ | refine xN ?_ _ | exact xR _)))).mono ?_
    rintro e w' ⟨rfl, r4, rfl⟩
    by_cases hd : dcheckN t c b who s2 s1 es = 0
    ·have HD := hid hd
     rw [hd]
     clear hd
     (repeat (first | go_values | go_skip | go_guarded | go_step | go_upon | (simp only [Int.not_lt, Int.not_le] at *; go_simp) | (go_ite <;> go_prune <;> (try go_simp))))
     refine bodyPost_ret (v := .tuple #[.agg #[.int .i64 who, .int .i64 s2, .int .i64 s1, .slice av es.length cv], .int .i64 0]) (by simp [results, Tryd.results63, go_sem, d0, d1, d2, d3, n1]) rfl ⟨by (show Ext _ _; repeat with_reducible first | (refine xH ?_; assumption) | exact xR _ | refine xX ?_ _ | refine xA ?_ _ | refine xD ?_ | refine xS ?_ (by (try dsimp only); first | omega | (simp; done) | (simp; omega)) _), ?_⟩
     rw [HL.out, if_pos HD.out]
     exact ⟨_, rfl, Sl.of_own enE_len (((((HO.out.ext _).under (by omega) _).under (by omega) _).under (by omega) _).under (by omega) _)⟩
    ·have HD := hid hd
     have hb : (dcheckN t c b who s2 s1 es != 0) = true := by simpa using hd
     clear hd
     (repeat (first | go_values | go_skip | go_guarded | go_step | go_upon | (simp only [Int.not_lt, Int.not_le] at *; go_simp) | (go_ite <;> go_prune <;> (try go_simp))))
     refine bodyPost_ret (v := .tuple #[.agg #[.int .i64 0, .int .i64 0, .int .i64 0, .slice none 0 0], .int .i64 5]) (by simp [results, Tryd.results63, go_sem, d0, d1, d2, d3, n1]) rfl ⟨by (show Ext _ _; repeat with_reducible first | (refine xH ?_; assumption) | exact xR _ | refine xX ?_ _ | refine xA ?_ _ | refine xD ?_ | refine xS ?_ (by (try dsimp only); first | omega | (simp; done) | (simp; omega)) _), ?_⟩
     rw [HL.out, if_neg HD.out]
end Go.Proofs.YtdpbcfjfnclpiaaDoor
