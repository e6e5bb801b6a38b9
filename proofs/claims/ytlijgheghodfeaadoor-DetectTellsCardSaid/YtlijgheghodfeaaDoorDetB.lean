/- The walk of package detect's Entries. -/
import Derived.Test.YtlijgheghodfeaaDoorDetA
import Derived.Test.YtlijgheghodfeaaDoorHeld
import Derived.Test.YtlijgheghodfeaaDoorOpen
import Derived.Test.YtlijgheghodfeaaDoorEntC
namespace Go.Proofs.YtlijgheghodfeaaDoor
set_option linter.unusedSimpArgs false
set_option linter.unusedVariables false
open Go.RowKit

theorem Tryd.infoEn : (Tryd.prog.info? 46).map (fun i => (i.zero, i.size, i.bytes)) = some (some (.agg #[.int .i64 0, .int .i64 0, .int .u32 0, .int .u32 0, .int .i64 0, .bool false]), 6, 40) := by kernel_rfl

theorem es_append_op {o : Oper} {a : Act} {K : Act → World → Prop} {Q : Exit → Act → World → Prop} {w : World} {base : Nat} {v : Value} {l : List En}
    (s x : Operand) (ho : o.op = .call { callee := .builtin .append, args := #[s, x], argTypes := #[34, 34] })
    (W : World) (hW : Ext W w) (hWb : W.heap.size ≤ base) (hbw : base ≤ w.heap.size) (hs : a.eval s = v) (hown : Own w base 46 6 enE v l)
    (ad : Addr) (m c : Nat) (hx : a.eval x = .slice (some ad) m c) (news : List En) (hm : news.length = m)
    (hnews : ∀ (j : Nat) (u : Value), (news.flatMap enE)[j]? = some u → w.cell? (ad.add j) = some u)
    (hlen : l.length + m ≤ 1000000)
    (h : ∀ v' r, Own (ext W r) base 46 6 enE v' (l ++ news) → K (a.put o.dst v') (ext W r)) : Oper.wp Tryd.prog o a w K Q := by
  obtain ⟨i0, hi, hz0, hz1, hz2⟩ := info_parts Tryd.infoEn
  exact own_append_op Tryd.underlying34 hi hz0 hz1 hz2 rfl (by decide) enE_len enE_one s x ho W hW hWb hbw hs hown ad m c hx news hm hnews (by unfold maxLen; omega) (by omega) h

/-- Plain: the three entries that write a record. -/
def recE (p : Int) (x y z : Wd) (n err val : Int) : List En := [⟨p, x.1, x.2.1, x.2.2, n, true⟩, ⟨p + 1, y.1, y.2.1, y.2.2, val, true⟩, ⟨p + 2, z.1, z.2.1, z.2.2, err, true⟩]
/-- Plain: what Entries answers: entries and error. -/
def dentN (t c b x : Int) (was : List Wd) (n err val : Int) : List En × Int :=
  if checkN t c b ≠ 0 ∨ was.length ≠ 3 then ([], 1) else if recN t c b x < 0 then ([], 3) else if n < 1 ∨ err < 0 ∨ 255 < err then ([], 4)
  else match was with
    | [u, v, z] => if n ≤ u.1 then ([], 12) else if checkE (recE (recN t c b x) u v z n err val) ≠ 0 then ([], checkE (recE (recN t c b x) u v z n err val)) else (recE (recN t c b x) u v z n err val, 0)
    | _ => ([], 1)
theorem recE_ok {p : Int} (hp : 0 ≤ p ∧ p ≤ 30000) {x y z : Wd} (hx : WdOk x) (hy : WdOk y) (hz : WdOk z) {n err val : Int} (hn : -9223372036854775808 ≤ n ∧ n ≤ 9223372036854775807) (he : -9223372036854775808 ≤ err ∧ err ≤ 9223372036854775807)
    (hv : -9223372036854775808 ≤ val ∧ val ≤ 9223372036854775807) : ∀ e ∈ recE p x y z n err val, EnOk e := by
  intro e h
  simp only [recE, List.mem_cons, List.not_mem_nil, or_false] at h
  obtain ⟨⟨a1, a2⟩, ⟨a3, a4⟩, a5, a6⟩ := hx
  obtain ⟨⟨b1, b2⟩, ⟨b3, b4⟩, b5, b6⟩ := hy
  obtain ⟨⟨c1, c2⟩, ⟨c3, c4⟩, c5, c6⟩ := hz
  rcases h with rfl | rfl | rfl
  · exact ⟨by dsimp only; omega, by dsimp only; omega, a1, a2, a3, a4, a5, a6, hn.1, hn.2⟩
  · exact ⟨by dsimp only; omega, by dsimp only; omega, b1, b2, b3, b4, b5, b6, hv.1, hv.2⟩
  · exact ⟨by dsimp only; omega, by dsimp only; omega, c1, c2, c3, c4, c5, c6, he.1, he.2⟩

set_option maxRecDepth 100000 in
theorem idx3 (x y z : Int) (j : Nat) (hj : j < 3) (f : Int) (hf : [x, y, z][j]? = some f) (w : World) : (Instr.index 85 (.agg #[.int .i64 x, .int .i64 y, .int .i64 z]) (.int .i64 j)).run Tryd.prog w = .ok (.int .i64 f) w := by
  have hcj : j = 0 ∨ j = 1 ∨ j = 2 := by omega
  rcases hcj with rfl | rfl | rfl
  all_goals
    simp at hf
    subst hf
    simp [Instr.index, Tryd.underlying85, go_sem]

/-- What Entries leaves. -/
def DentPost (w : World) (q : List En × Int) (y : Ending) (w' : World) : Prop := ∃ v', y = .returned (.tuple #[v', .int .i64 q.2]) ∧ (∃ r, w' = ext w r) ∧ Own w' w.heap.size 46 6 enE v' q.1
theorem DentPost.no {w w' : World} {q : List En × Int} {e : Int} (hq : q = ([], e)) (h : ∃ r, w' = ext w r) : DentPost w q (.returned (.tuple #[.slice none 0 0, .int .i64 e])) w' := by
  subst hq; exact ⟨_, rfl, h, Own.nil⟩
theorem DentPost.yes {w w' : World} {q : List En × Int} {l : List En} {v : Value} (hq : q = (l, 0)) (h : ∃ r, w' = ext w r) (ho : Own w' w.heap.size 46 6 enE v l) : DentPost w q (.returned (.tuple #[v, .int .i64 0])) w' := by
  subst hq; exact ⟨_, rfl, h, ho⟩

set_option maxRecDepth 100000 in
set_option maxHeartbeats 4000000 in
theorem dent_any (t c b x : Int) (was : List Wd) (wv : Value) (hok : ∀ a ∈ was, WdOk a) (n err val : Int) (hn : -9223372036854775808 ≤ n ∧ n ≤ 9223372036854775807) (he : -9223372036854775808 ≤ err ∧ err ≤ 9223372036854775807)
    (hv : -9223372036854775808 ≤ val ∧ val ≤ 9223372036854775807) (w : World) (hs : Szs w) (hw : Sl w 3 wdE wv was) :
    Calls Tryd.prog 13 #[.agg #[.int .i64 t, .int .i64 c, .int .i64 b], .int .i64 x, wv, .int .i64 n, .agg #[.int .i64 err, .int .i64 val]] w fun y w' => DentPost w (dentN t c b x was n err val) y w' := by
  have heq := eql_locs
  have HS := hid hs
  have HW := hid hw
  have HO := hid hok
  have HN := hid hn
  have HEr := hid he
  have HVl := hid hv
  obtain ⟨a, cp, rfl, _, _⟩ := hw
  have hbd := recN_bd t c b x
  obtain ⟨p, hp⟩ : ∃ p, p = recN t c b x := ⟨_, rfl⟩
  rw [← hp] at hbd
  obtain ⟨q, hq⟩ : ∃ q, q = dentN t c b x was n err val := ⟨_, rfl⟩
  rw [← hq]
  have HQ := hid hq
  have HP := hid hp.symm
  obtain ⟨ck, hck⟩ : ∃ k, k = checkN t c b := ⟨_, rfl⟩
  have HC := hid hck.symm
  clear hs hok hn he hv hp hq hck
  by_cases h1 : ck = 0
  rotate_left
  · have HR := hid (show q = ([], 1) by rw [HQ.out]; unfold dentN; rw [if_pos (.inl (by rw [HC.out]; exact h1))])
    have hb : (ck != 0) = true := by simpa using h1
    clear h1 HQ
    go_enter Tryd.func13, Tryd.ntmps13
    go_wp2_with fail
    refine (ats_any t c b x _ (HS.out.of (by (show Ext _ _; repeat (first | with_reducible (refine Hid.out ?_; assumption) | with_reducible exact Ext.refl _ | with_reducible refine Ext.ext ?_ _ | with_reducible refine Ext.alloc ?_ _ | refine Ext.drew ?_ | refine Ext.drewN ?_ _ | exact Ext.refl _))))).mono ?_
    rintro e w' ⟨⟨r1, rfl⟩, hy⟩
    obtain ⟨v1, rfl⟩ : ∃ v1, e = .returned v1 := by rcases hy with ⟨_, rfl⟩ | ⟨_, g, rfl, _⟩ <;> exact ⟨_, rfl⟩
    clear hy
    go_wp2_with fail
    refine (check_any t c b _ (HS.out.of (by (show Ext _ _; repeat (first | with_reducible (refine Hid.out ?_; assumption) | with_reducible exact Ext.refl _ | with_reducible refine Ext.ext ?_ _ | with_reducible refine Ext.alloc ?_ _ | refine Ext.drew ?_ | refine Ext.drewN ?_ _ | exact Ext.refl _))))).mono ?_
    rintro e w' ⟨rfl, r2, rfl⟩
    rw [HC.out]
    go_wp2_with fail
    go_ret2
    exact DentPost.no HR.out (by (show Ext _ _; repeat (first | with_reducible (refine Hid.out ?_; assumption) | with_reducible exact Ext.refl _ | with_reducible refine Ext.ext ?_ _ | with_reducible refine Ext.alloc ?_ _ | refine Ext.drew ?_ | refine Ext.drewN ?_ _ | exact Ext.refl _)))
  subst h1
  by_cases h2 : was.length = 3
  rotate_left
  · have HR := hid (show q = ([], 1) by rw [HQ.out]; unfold dentN; rw [if_pos (.inr h2)])
    have hb : ((was.length : Int) != 3) = true := by simp; omega
    clear h2 HQ
    go_enter Tryd.func13, Tryd.ntmps13
    go_wp2_with fail
    refine (ats_any t c b x _ (HS.out.of (by (show Ext _ _; repeat (first | with_reducible (refine Hid.out ?_; assumption) | with_reducible exact Ext.refl _ | with_reducible refine Ext.ext ?_ _ | with_reducible refine Ext.alloc ?_ _ | refine Ext.drew ?_ | refine Ext.drewN ?_ _ | exact Ext.refl _))))).mono ?_
    rintro e w' ⟨⟨r1, rfl⟩, hy⟩
    obtain ⟨v1, rfl⟩ : ∃ v1, e = .returned v1 := by rcases hy with ⟨_, rfl⟩ | ⟨_, g, rfl, _⟩ <;> exact ⟨_, rfl⟩
    clear hy
    go_wp2_with fail
    refine (check_any t c b _ (HS.out.of (by (show Ext _ _; repeat (first | with_reducible (refine Hid.out ?_; assumption) | with_reducible exact Ext.refl _ | with_reducible refine Ext.ext ?_ _ | with_reducible refine Ext.alloc ?_ _ | refine Ext.drew ?_ | refine Ext.drewN ?_ _ | exact Ext.refl _))))).mono ?_
    rintro e w' ⟨rfl, r2, rfl⟩
    rw [HC.out]
    go_wp2_with fail
    go_ret2
    exact DentPost.no HR.out (by (show Ext _ _; repeat (first | with_reducible (refine Hid.out ?_; assumption) | with_reducible exact Ext.refl _ | with_reducible refine Ext.ext ?_ _ | with_reducible refine Ext.alloc ?_ _ | refine Ext.drew ?_ | refine Ext.drewN ?_ _ | exact Ext.refl _)))
  match was, h2 with
  | [u, v, z], _ =>
  have hQ2 : q = if p < 0 then ([], 3) else if n < 1 ∨ err < 0 ∨ 255 < err then ([], 4) else if n ≤ u.1 then ([], 12) else if checkE (recE p u v z n err val) ≠ 0 then ([], checkE (recE p u v z n err val)) else (recE p u v z n err val, 0) := by
    rw [HQ.out]; unfold dentN; rw [if_neg (by rw [HC.out]; simp), HP.out]
  have HQ2 := hid hQ2
  clear HQ hQ2
  by_cases h3 : p < 0
  · have HR := hid (show q = ([], 3) by rw [HQ2.out, if_pos h3])
    clear HQ2
    go_enter Tryd.func13, Tryd.ntmps13
    go_wp2_with fail
    refine (ats_any t c b x _ (HS.out.of (by (show Ext _ _; repeat (first | with_reducible (refine Hid.out ?_; assumption) | with_reducible exact Ext.refl _ | with_reducible refine Ext.ext ?_ _ | with_reducible refine Ext.alloc ?_ _ | refine Ext.drew ?_ | refine Ext.drewN ?_ _ | exact Ext.refl _))))).mono ?_
    rintro e w' ⟨⟨r1, rfl⟩, hy⟩
    rw [HP.out] at hy
    obtain rfl : e = .returned (.slice none 0 0) := by
      rcases hy with ⟨_, h⟩ | ⟨h, _⟩
      · exact h
      · omega
    clear hy
    go_wp2_with fail
    refine (check_any t c b _ (HS.out.of (by (show Ext _ _; repeat (first | with_reducible (refine Hid.out ?_; assumption) | with_reducible exact Ext.refl _ | with_reducible refine Ext.ext ?_ _ | with_reducible refine Ext.alloc ?_ _ | refine Ext.drew ?_ | refine Ext.drewN ?_ _ | exact Ext.refl _))))).mono ?_
    rintro e w' ⟨rfl, r2, rfl⟩
    rw [HC.out]
    go_wp2_with fail
    go_ret2
    exact DentPost.no HR.out (by (show Ext _ _; repeat (first | with_reducible (refine Hid.out ?_; assumption) | with_reducible exact Ext.refl _ | with_reducible refine Ext.ext ?_ _ | with_reducible refine Ext.alloc ?_ _ | refine Ext.drew ?_ | refine Ext.drewN ?_ _ | exact Ext.refl _)))
  have HQ4 := hid (show q = if n < 1 ∨ err < 0 ∨ 255 < err then ([], 4) else if n ≤ u.1 then ([], 12) else if checkE (recE p u v z n err val) ≠ 0 then ([], checkE (recE p u v z n err val)) else (recE p u v z n err val, 0) by rw [HQ2.out, if_neg h3])
  clear HQ2
  obtain ⟨b0, o0, rfl, hbl, hcs⟩ : ∃ b0 o0, a = some ⟨b0, o0, none⟩ ∧ b0 < w.heap.size ∧ ∀ i y, [u, v, z][i]? = some y → ∀ j, j < 3 → w.cell? ⟨b0, o0 + i * 3 + j, none⟩ = (wdE y)[j]? := by
    obtain ⟨_, b0, o0, h1, h2, _⟩ := Sl.at HW.out (i := 0) (x := u) rfl
    refine ⟨b0, o0, h1, h2, fun i y hy => ?_⟩
    obtain ⟨_, b1, o1, g1, _, g3⟩ := Sl.at HW.out hy
    rw [h1] at g1
    cases g1
    exact g3
  have k0 := hcs 0 u rfl 0 (by omega)
  simp [wdE] at k0
  have HCs := hid hcs
  have hp0 : 0 ≤ p := by omega
  obtain ⟨_, hp1⟩ := hbd
  clear hcs
  go_enter Tryd.func13, Tryd.ntmps13
  go_wp2_with fail
  refine (ats_any t c b x _ (HS.out.of (by (show Ext _ _; repeat (first | with_reducible (refine Hid.out ?_; assumption) | with_reducible exact Ext.refl _ | with_reducible refine Ext.ext ?_ _ | with_reducible refine Ext.alloc ?_ _ | refine Ext.drew ?_ | refine Ext.drewN ?_ _ | exact Ext.refl _))))).mono ?_
  rintro e w' ⟨⟨r1, rfl⟩, hy⟩
  rw [HP.out] at hy
  rcases hy with ⟨h, _⟩ | ⟨_, g, rfl, hbk⟩
  · omega
  have HBk := hid hbk
  clear hbk
  go_wp2_with fail
  refine (check_any t c b _ (HS.out.of (by (show Ext _ _; repeat (first | with_reducible (refine Hid.out ?_; assumption) | with_reducible exact Ext.refl _ | with_reducible refine Ext.ext ?_ _ | with_reducible refine Ext.alloc ?_ _ | refine Ext.drew ?_ | refine Ext.drewN ?_ _ | exact Ext.refl _))))).mono ?_
  rintro e w' ⟨rfl, r2, rfl⟩
  rw [HC.out]
  by_cases h4 : n < 1 ∨ err < 0 ∨ 255 < err
  · have HR := hid (show q = ([], 4) by rw [HQ4.out, if_pos h4])
    have hcs : n < 1 ∨ (¬ n < 1 ∧ err < 0) ∨ (¬ n < 1 ∧ ¬ err < 0 ∧ 255 < err) := by omega
    clear h4 HQ4
    rcases hcs with h5 | ⟨h5, h6⟩ | ⟨h5, h6, h7⟩
    all_goals
      go_wp2_with fail
      go_ret2
      exact DentPost.no HR.out (by (show Ext _ _; repeat (first | with_reducible (refine Hid.out ?_; assumption) | with_reducible exact Ext.refl _ | with_reducible refine Ext.ext ?_ _ | with_reducible refine Ext.alloc ?_ _ | refine Ext.drew ?_ | refine Ext.drewN ?_ _ | exact Ext.refl _)))
  have h5 : ¬ n < 1 := by omega
  have h6 : ¬ err < 0 := by omega
  have h7 : ¬ 255 < err := by omega
  by_cases h8 : n ≤ u.1
  · have HR := hid (show q = ([], 12) by rw [HQ4.out, if_neg h4, if_pos h8])
    clear h4 HQ4
    go_wp2_with fail
    go_ret2
    exact DentPost.no HR.out (by (show Ext _ _; repeat (first | with_reducible (refine Hid.out ?_; assumption) | with_reducible exact Ext.refl _ | with_reducible refine Ext.ext ?_ _ | with_reducible refine Ext.alloc ?_ _ | refine Ext.drew ?_ | refine Ext.drewN ?_ _ | exact Ext.refl _)))
  have HQ3 := hid (show q = if checkE (recE p u v z n err val) ≠ 0 then ([], checkE (recE p u v z n err val)) else (recE p u v z n err val, 0) by rw [HQ4.out, if_neg h4, if_neg h8])
  clear h4 HQ4
  go_wp2_with fail
  generalize hU : ext _ r2 = U
  have HEU := hid (show Ext w U by rw [← hU]; (show Ext _ _; repeat (first | with_reducible (refine Hid.out ?_; assumption) | with_reducible exact Ext.refl _ | with_reducible refine Ext.ext ?_ _ | with_reducible refine Ext.alloc ?_ _ | refine Ext.drew ?_ | refine Ext.drewN ?_ _ | exact Ext.refl _)))
  have HBg := hid (HBk.out.of (show Ext _ U by rw [← hU]; (show Ext _ _; repeat (first | with_reducible (refine Hid.out ?_; assumption) | with_reducible exact Ext.refl _ | with_reducible refine Ext.ext ?_ _ | with_reducible refine Ext.alloc ?_ _ | refine Ext.drew ?_ | refine Ext.drewN ?_ _ | exact Ext.refl _))))
  have HOk3 := hid (recE_ok ⟨hp0, hp1⟩ (HO.out u (by simp)) (HO.out v (by simp)) (HO.out z (by simp)) HN.out HEr.out HVl.out)
  clear hU HBk k0
  go_loopw [13, 58] (fun o i wr => ∃ j : Nat, j ≤ 3 ∧ i = .int .i64 j ∧ Hid (Own wr U.heap.size 46 6 enE o ((recE p u v z n err val).take j)) ∧ Hid (Ext U wr)) (fun _ i _ => 3 - (intOf i).toNat)
  case atStart => exact ⟨0, by omega, rfl, hid Own.nil, hid (Ext.refl _)⟩
  case round =>
  obtain ⟨j, hj, rfl, HOw, HX⟩ := hrel
  have HXw := hid (HEU.out.trans HX.out)
  obtain ⟨ao, co, rfl⟩ := Own.shape HOw.out
  by_cases hj3 : j < 3
  · have hjj : (j : Int) < 3 := by omega
    obtain ⟨d, hd⟩ : ∃ d, (recE p u v z n err val)[j]? = some d := ⟨_, List.getElem?_eq_getElem (by show j < 3; exact hj3)⟩
    obtain ⟨y, hy⟩ : ∃ y, [u, v, z][j]? = some y := ⟨_, List.getElem?_eq_getElem (by show j < 3; exact hj3)⟩
    obtain ⟨f, hf⟩ : ∃ f, [n, val, err][j]? = some f := ⟨_, List.getElem?_eq_getElem (by show j < 3; exact hj3)⟩
    have hde : d = ⟨p + j, y.1, y.2.1, y.2.2, f, true⟩ := by
      have hcj : j = 0 ∨ j = 1 ∨ j = 2 := by omega
      rcases hcj with rfl | rfl | rfl <;> simp [recE] at hd hy hf <;> subst hd hy hf <;> simp
    have hag : (#[.int .i64 n, .int .i64 val, .int .i64 err] : Array Value)[j]? = some (.int .i64 f) := by
      have hcj : j = 0 ∨ j = 1 ∨ j = 2 := by omega
      rcases hcj with rfl | rfl | rfl <;> simp at hf <;> subst hf <;> rfl
    have q0u : U.cell? ⟨g, j, none⟩ = some (.int .i64 (p + j)) := by
      refine HBg.out.2.2 j _ ?_
      have hcj : j = 0 ∨ j = 1 ∨ j = 2 := by omega
      rcases hcj with rfl | rfl | rfl <;> simp
    have HA := hid (show (recE p u v z n err val).take (j + 1) = (recE p u v z n err val).take j ++ [⟨p + j, y.1, y.2.1, y.2.2, f, true⟩] by
      obtain ⟨h1, h2⟩ := List.getElem?_eq_some_iff.1 hd
      rw [List.take_succ_eq_append_getElem h1, h2, hde])
    have m0u := HEU.out.cell (HCs.out j y hy 0 (by omega))
    have m1u := HEU.out.cell (HCs.out j y hy 1 (by omega))
    have m2u := HEU.out.cell (HCs.out j y hy 2 (by omega))
    obtain ⟨y1, y2, y3⟩ := y
    simp [wdE] at m0u m1u m2u
    have hUw := HX.out.size
    have q0 := HX.out.cell q0u
    have m0 := HX.out.cell m0u
    have m1 := HX.out.cell m1u
    have m2 := HX.out.cell m2u
    have hix := idx3 n val err j hj3 f hf
    have hln : ((recE p u v z n err val).take j).length = j := by rw [List.length_take]; show min j 3 = j; omega
    have HLn := hid hln
    have HO2 := hid (show Own wr U.heap.size 46 6 enE (.slice ao j co) ((recE p u v z n err val).take j) by have := HOw.out; rw [hln] at this; exact this)
    rw [hln]
    clear hd hy hf hde hln
    go_wp2_with fail
    refine wp_region_held_drew (S := fun w' => w'.cell? ⟨g, j, none⟩ = some (.int .i64 (p + j)) ∧ (w'.cell? ⟨b0, o0 + j * 3, none⟩ = some (.int .i64 y1) ∧ w'.cell? ⟨b0, o0 + j * 3 + 1, none⟩ = some (.int .u32 y2) ∧ w'.cell? ⟨b0, o0 + j * 3 + 2, none⟩ = some (.int .u32 y3))) (by kernel_rfl) (by exact ⟨(show Ext U _ by (show Ext _ _; repeat (first | with_reducible (refine Hid.out ?_; assumption) | with_reducible exact Ext.refl _ | with_reducible refine Ext.ext ?_ _ | with_reducible refine Ext.alloc ?_ _ | with_reducible refine Ext.drew ?_ | with_reducible refine Ext.setCell ?_ (by (try dsimp only); first | omega | (simp; done) | (simp; omega)) _))).cell q0u, (show Ext U _ by (show Ext _ _; repeat (first | with_reducible (refine Hid.out ?_; assumption) | with_reducible exact Ext.refl _ | with_reducible refine Ext.ext ?_ _ | with_reducible refine Ext.alloc ?_ _ | with_reducible refine Ext.drew ?_ | with_reducible refine Ext.setCell ?_ (by (try dsimp only); first | omega | (simp; done) | (simp; omega)) _))).cell m0u, (show Ext U _ by (show Ext _ _; repeat (first | with_reducible (refine Hid.out ?_; assumption) | with_reducible exact Ext.refl _ | with_reducible refine Ext.ext ?_ _ | with_reducible refine Ext.alloc ?_ _ | with_reducible refine Ext.drew ?_ | with_reducible refine Ext.setCell ?_ (by (try dsimp only); first | omega | (simp; done) | (simp; omega)) _))).cell m1u, (show Ext U _ by (show Ext _ _; repeat (first | with_reducible (refine Hid.out ?_; assumption) | with_reducible exact Ext.refl _ | with_reducible refine Ext.ext ?_ _ | with_reducible refine Ext.alloc ?_ _ | with_reducible refine Ext.drew ?_ | with_reducible refine Ext.setCell ?_ (by (try dsimp only); first | omega | (simp; done) | (simp; omega)) _))).cell m2u⟩) (fun hHeld => ?_)
    refine take_met 0 (oi := ⟨_, _, _, _, _, _⟩) (v := ?_) (by kernel_rfl) rfl (by rfl) (fun _ _ _ h => h) (by assumption) ?_ ?_
    rotate_left 1
    · intro w hSw
      try dsimp only at hSw
      go_simp
      try with_reducible rfl
    (try simp only [Act.put, List.setIfInBounds_toArray, List.set_cons_zero, List.set_cons_succ])
    refine take_met 1 (oi := ⟨_, _, _, _, _, _⟩) (v := ?_) (by kernel_rfl) rfl (by rfl) (fun _ _ _ h => h) (by assumption) ?_ ?_
    rotate_left 1
    · intro w hSw
      try dsimp only at hSw
      go_simp
      try with_reducible rfl
    (try simp only [Act.put, List.setIfInBounds_toArray, List.set_cons_zero, List.set_cons_succ])
    refine take_met 2 (oi := ⟨_, _, _, _, _, _⟩) (v := ?_) (by kernel_rfl) rfl (by rfl) (fun _ _ _ h => h) (by assumption) ?_ ?_
    rotate_left 1
    · intro w hSw
      try dsimp only at hSw
      go_simp
      try with_reducible rfl
    (try simp only [Act.put, List.setIfInBounds_toArray, List.set_cons_zero, List.set_cons_succ])
    refine take_met 3 (oi := ⟨_, _, _, _, _, _⟩) (v := ?_) (by kernel_rfl) rfl (by rfl) (fun _ _ _ h => h) (by assumption) ?_ ?_
    rotate_left 1
    · intro w hSw
      try dsimp only at hSw
      go_simp
      try with_reducible rfl
    (try simp only [Act.put, List.setIfInBounds_toArray, List.set_cons_zero, List.set_cons_succ])
    refine take_met 4 (oi := ⟨_, _, _, _, _, _⟩) (v := ?_) (by kernel_rfl) rfl (by rfl) (fun _ _ _ h => h) (by assumption) ?_ ?_
    rotate_left 1
    · intro w hSw
      try dsimp only at hSw
      go_simp
      try with_reducible rfl
    (try simp only [Act.put, List.setIfInBounds_toArray, List.set_cons_zero, List.set_cons_succ])
    refine take_met 5 (oi := ⟨_, _, _, _, _, _⟩) (v := ?_) (by kernel_rfl) rfl (by rfl) (fun _ _ _ h => h) (by assumption) ?_ ?_
    rotate_left 1
    · intro w hSw
      try dsimp only at hSw
      go_simp
      try with_reducible rfl
    (try simp only [Act.put, List.setIfInBounds_toArray, List.set_cons_zero, List.set_cons_succ])
    refine take_met 6 (oi := ⟨_, _, _, _, _, _⟩) (v := ?_) (by kernel_rfl) rfl (by rfl) (fun _ _ _ h => h) (by assumption) ?_ ?_
    rotate_left 1
    · intro w hSw
      try dsimp only at hSw
      go_simp
      try with_reducible rfl
    (try simp only [Act.put, List.setIfInBounds_toArray, List.set_cons_zero, List.set_cons_succ])
    refine take_met 7 (oi := ⟨_, _, _, _, _, _⟩) (v := ?_) (by kernel_rfl) rfl (by rfl) (fun _ _ _ h => h) (by assumption) ?_ ?_
    rotate_left 1
    · intro w hSw
      try dsimp only at hSw
      go_simp
      try with_reducible rfl
    (try simp only [Act.put, List.setIfInBounds_toArray, List.set_cons_zero, List.set_cons_succ])
    refine take_met 8 (oi := ⟨_, _, _, _, _, _⟩) (v := ?_) (by kernel_rfl) rfl (by rfl) (fun _ _ _ h => h) (by assumption) ?_ ?_
    rotate_left 1
    · intro w hSw
      try dsimp only at hSw
      go_simp
      try with_reducible rfl
    (try simp only [Act.put, List.setIfInBounds_toArray, List.set_cons_zero, List.set_cons_succ])
    refine take_met 9 (oi := ⟨_, _, _, _, _, _⟩) (v := ?_) (by kernel_rfl) rfl (by rfl) (fun _ _ _ h => h) (by assumption) ?_ ?_
    rotate_left 1
    · intro w hSw
      try dsimp only at hSw
      go_simp
      try with_reducible rfl
    (try simp only [Act.put, List.setIfInBounds_toArray, List.set_cons_zero, List.set_cons_succ])
    refine take_met 10 (oi := ⟨_, _, _, _, _, _⟩) (v := ?_) (by kernel_rfl) rfl (by rfl) (fun _ _ _ h => h) (by assumption) ?_ ?_
    rotate_left 1
    · intro w hSw
      try dsimp only at hSw
      go_simp
      try with_reducible rfl
    (try simp only [Act.put, List.setIfInBounds_toArray, List.set_cons_zero, List.set_cons_succ])
    refine take_only 11 (oi := ⟨_, _, _, _, _, _⟩) (by kernel_rfl) rfl (fun K hK => ?_)
    go_simp
    have hOld := hHeld
    clear hHeld
    refine hK.out _ _ (by exact ⟨(show Ext U _ by (show Ext _ _; repeat (first | with_reducible (refine Hid.out ?_; assumption) | with_reducible exact Ext.refl _ | with_reducible refine Ext.ext ?_ _ | with_reducible refine Ext.alloc ?_ _ | with_reducible refine Ext.drew ?_ | with_reducible refine Ext.setCell ?_ (by (try dsimp only); first | omega | (simp; done) | (simp; omega)) _))).cell q0u, (show Ext U _ by (show Ext _ _; repeat (first | with_reducible (refine Hid.out ?_; assumption) | with_reducible exact Ext.refl _ | with_reducible refine Ext.ext ?_ _ | with_reducible refine Ext.alloc ?_ _ | with_reducible refine Ext.drew ?_ | with_reducible refine Ext.setCell ?_ (by (try dsimp only); first | omega | (simp; done) | (simp; omega)) _))).cell m0u, (show Ext U _ by (show Ext _ _; repeat (first | with_reducible (refine Hid.out ?_; assumption) | with_reducible exact Ext.refl _ | with_reducible refine Ext.ext ?_ _ | with_reducible refine Ext.alloc ?_ _ | with_reducible refine Ext.drew ?_ | with_reducible refine Ext.setCell ?_ (by (try dsimp only); first | omega | (simp; done) | (simp; omega)) _))).cell m1u, (show Ext U _ by (show Ext _ _; repeat (first | with_reducible (refine Hid.out ?_; assumption) | with_reducible exact Ext.refl _ | with_reducible refine Ext.ext ?_ _ | with_reducible refine Ext.alloc ?_ _ | with_reducible refine Ext.drew ?_ | with_reducible refine Ext.setCell ?_ (by (try dsimp only); first | omega | (simp; done) | (simp; omega)) _))).cell m2u⟩) (fun hHeld => ?_)
    clear hOld hK K
    (try simp only [Act.put, List.setIfInBounds_toArray, List.set_cons_zero, List.set_cons_succ])
    refine take_only 12 (oi := ⟨_, _, _, _, _, _⟩) (by kernel_rfl) rfl (fun K hK => ?_)
    rw [if_pos (by rfl)]
    first
      | (refine es_append_op _ _ rfl U (by (show Ext _ _; repeat (first | with_reducible (refine Hid.out ?_; assumption) | with_reducible exact Ext.refl _ | with_reducible refine Ext.ext ?_ _ | with_reducible refine Ext.alloc ?_ _ | refine Ext.drew ?_ | refine Ext.drewN ?_ _ | exact Ext.refl _))) (Nat.le_refl _) (by (first | exact Nat.le_refl _ | (simp; done) | (simp; omega))) rfl ((HO2.out.drew).alloc _) _ 1 1 rfl [⟨p + j, y1, y2, y3, f, true⟩] rfl (news_new rfl _ (by (first | rfl | (simp; done)))) (by rw [HLn.out]; omega) ?_; rintro v' r' hv')
    have hOld := hHeld
    clear hHeld
    refine hK.out _ _ (by exact ⟨(show Ext U _ by (show Ext _ _; repeat (first | with_reducible (refine Hid.out ?_; assumption) | with_reducible exact Ext.refl _ | with_reducible refine Ext.ext ?_ _ | with_reducible refine Ext.alloc ?_ _ | with_reducible refine Ext.drew ?_ | with_reducible refine Ext.setCell ?_ (by (try dsimp only); first | omega | (simp; done) | (simp; omega)) _))).cell q0u, (show Ext U _ by (show Ext _ _; repeat (first | with_reducible (refine Hid.out ?_; assumption) | with_reducible exact Ext.refl _ | with_reducible refine Ext.ext ?_ _ | with_reducible refine Ext.alloc ?_ _ | with_reducible refine Ext.drew ?_ | with_reducible refine Ext.setCell ?_ (by (try dsimp only); first | omega | (simp; done) | (simp; omega)) _))).cell m0u, (show Ext U _ by (show Ext _ _; repeat (first | with_reducible (refine Hid.out ?_; assumption) | with_reducible exact Ext.refl _ | with_reducible refine Ext.ext ?_ _ | with_reducible refine Ext.alloc ?_ _ | with_reducible refine Ext.drew ?_ | with_reducible refine Ext.setCell ?_ (by (try dsimp only); first | omega | (simp; done) | (simp; omega)) _))).cell m1u, (show Ext U _ by (show Ext _ _; repeat (first | with_reducible (refine Hid.out ?_; assumption) | with_reducible exact Ext.refl _ | with_reducible refine Ext.ext ?_ _ | with_reducible refine Ext.alloc ?_ _ | with_reducible refine Ext.drew ?_ | with_reducible refine Ext.setCell ?_ (by (try dsimp only); first | omega | (simp; done) | (simp; omega)) _))).cell m2u⟩) (fun hHeld => ?_)
    clear hOld hK K
    (try simp only [Act.put, List.setIfInBounds_toArray, List.set_cons_zero, List.set_cons_succ])
    refine take_met 13 (oi := ⟨_, _, _, _, _, _⟩) (v := ?_) (by kernel_rfl) rfl (by rfl) (fun _ _ _ h => h) (by assumption) ?_ ?_
    rotate_left 1
    · intro w hSw
      try dsimp only at hSw
      go_simp
      try with_reducible rfl
    (try simp only [Act.put, List.setIfInBounds_toArray, List.set_cons_zero, List.set_cons_succ])
    refine wpAnyH_done (by kernel_rfl) ?_ _
    go_wp2_with fail
    go_roundw
    case rel => exact ⟨j + 1, by omega, by go_num, hid (by rw [HA.out]; exact hv'), hid (by (show Ext _ _; repeat (first | with_reducible (refine Hid.out ?_; assumption) | with_reducible exact Ext.refl _ | with_reducible refine Ext.ext ?_ _ | with_reducible refine Ext.alloc ?_ _ | refine Ext.drew ?_ | refine Ext.drewN ?_ _ | exact Ext.refl _)))⟩
    case measure => simp [intOf]; omega
  · obtain rfl : j = 3 := by omega
    have ht3 : (recE p u v z n err val).take 3 = recE p u v z n err val := rfl
    rw [ht3] at HOw ⊢
    have hl3 : (recE p u v z n err val).length = 3 := rfl
    rw [hl3] at HOw ⊢
    clear hj hj3 ht3 hl3
    go_wp2_with fail
    refine (echeck_any (recE p u v z n err val) _ HOk3.out _ ((Sl.of_own enE_len HOw.out).of enE_len (by (show Ext _ _; repeat (first | with_reducible (refine Hid.out ?_; assumption) | with_reducible exact Ext.refl _ | with_reducible refine Ext.ext ?_ _ | with_reducible refine Ext.alloc ?_ _ | refine Ext.drew ?_ | refine Ext.drewN ?_ _ | exact Ext.refl _))))).mono ?_
    rintro e w' ⟨rfl, r3, rfl⟩
    by_cases hc : checkE (recE p u v z n err val) = 0
    · have HR := hid (show q = (recE p u v z n err val, 0) by rw [HQ3.out, if_neg (by rw [hc]; simp)])
      rw [hc]
      clear hc HQ3
      go_wp2_with fail
      go_ret2
      exact DentPost.yes HR.out (HXw.out.trans (by (show Ext _ _; repeat (first | with_reducible (refine Hid.out ?_; assumption) | with_reducible exact Ext.refl _ | with_reducible refine Ext.ext ?_ _ | with_reducible refine Ext.alloc ?_ _ | refine Ext.drew ?_ | refine Ext.drewN ?_ _ | exact Ext.refl _)))) (Own.mono (HOw.out.ext r3) HEU.out.size)
    · have HR := hid (show q = ([], checkE (recE p u v z n err val)) by rw [HQ3.out, if_pos hc])
      obtain ⟨ce, hce⟩ : ∃ e, e = checkE (recE p u v z n err val) := ⟨_, rfl⟩
      rw [← hce] at hc HR ⊢
      have hb : (ce != 0) = true := by simpa using hc
      clear hc HQ3 hce
      go_wp2_with fail
      go_ret2
      exact DentPost.no HR.out (HXw.out.trans (by (show Ext _ _; repeat (first | with_reducible (refine Hid.out ?_; assumption) | with_reducible exact Ext.refl _ | with_reducible refine Ext.ext ?_ _ | with_reducible refine Ext.alloc ?_ _ | refine Ext.drew ?_ | refine Ext.drewN ?_ _ | exact Ext.refl _))))

end Go.Proofs.YtlijgheghodfeaaDoor
