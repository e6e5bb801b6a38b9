/- The walk of the statement ModelApart. -/
import Derived.Test.YtdodipejckigoaaSwapsWalk
import Derived.Test.YtdodipejckigoaaMapZ
namespace Go.Proofs.Ytdodipejckigoaa
open Go.RowKit

theorem Try.zeroBool (w : World) : (zeroValue 4).run Try.prog w = .ok (.bool false) w := by kernel_rfl
/-- A set of locations, as a map to bools. -/
abbrev LocSet (w : World) (b n : Nat) (f : Int → Bool) : Prop := MapF (elBool Try.prog 4 Try.underlying4 Try.zeroBool) 40 w b n f

def locIn (es : List En) (x : Int) : Bool := es.any (fun y => y.loc == x)
theorem locIn_at {es : List En} {j : Nat} {e : En} (h : es[j]? = some e) : (fun y => if y = e.loc then true else locIn (es.take j) y) = locIn (es.take (j + 1)) := by
  obtain ⟨hj, hk⟩ := List.getElem?_eq_some_iff.1 h
  funext y
  unfold locIn
  rw [List.take_succ_eq_append_getElem hj, List.any_append, hk]
  by_cases hy : y = e.loc
  · subst hy; simp
  · rw [if_neg hy]; simp [Ne.symm hy]

/-- Plain: swaps with disjoint locations. -/
theorem swapN_len (l : List Wd) (es : List En) : (swapN l es).1.length = l.length := by
  rcases swaps_cases l es with ⟨_, h⟩ | ⟨_, _, _, h⟩ | ⟨_, _, _, h⟩ | ⟨_, _, _, h⟩ <;> rw [h]
  exact setL_len l es
theorem setW_comm (l : List Wd) (x y : En) (h : x.loc.toNat ≠ y.loc.toNat) : setW (setW l x) y = setW (setW l y) x := by
  unfold setW
  split <;> split <;> try rfl
  exact List.set_comm _ _ h
theorem setW_setL : ∀ (es : List En) (l : List Wd) (x : En), (∀ y ∈ es, x.loc.toNat ≠ y.loc.toNat) → setL (setW l x) es = setW (setL l es) x
  | [], _, _, _ => rfl
  | y :: r, l, x, h => by
    show setL (setW (setW l x) y) r = setW (setL (setW l y) r) x
    rw [setW_comm l x y (h y (List.mem_cons_self ..)), setW_setL r _ x (fun z hz => h z (List.mem_cons_of_mem _ hz))]
theorem setL_comm : ∀ (a b : List En) (l : List Wd), (∀ x ∈ a, ∀ y ∈ b, x.loc.toNat ≠ y.loc.toNat) → setL (setL l a) b = setL (setL l b) a
  | [], _, _, _ => rfl
  | x :: r, b, l, h => by
    show setL (setL (setW l x) r) b = setL (setW (setL l b) x) r
    rw [setL_comm r b _ (fun z hz => h z (List.mem_cons_of_mem _ hz)), setW_setL b l x (h x (List.mem_cons_self ..))]
theorem swap_far {m : List Wd} {es fs : List En} (hd : ∀ x ∈ es, ∀ y ∈ fs, x.loc ≠ y.loc) : swapN (swapN m fs).1 es = (if (swapN m es).2.1 = true then setL (swapN m fs).1 es else (swapN m fs).1, (swapN m es).2) := by
  have key : ∀ n : List Wd, hasB n es = hasB m es → (hasB m es = true → holdsB n es = holdsB m es) → swapN n es = (if (swapN m es).2.1 = true then setL n es else n, (swapN m es).2) := by
    intro n h1 h2
    unfold swapN
    rw [h1]
    by_cases h0 : checkE es = 0
    · simp only [h0, ne_eq, not_true_eq_false, if_false]
      cases h3 : hasB m es
      · simp
      · rw [h2 h3]
        cases h4 : holdsB m es <;> simp
    · simp [h0]
  rcases swaps_cases m fs with ⟨_, h⟩ | ⟨_, _, _, h⟩ | ⟨_, _, _, h⟩ | ⟨_, q1, _, h⟩
  · rw [h]; exact key m rfl (fun _ => rfl)
  · rw [h]; exact key m rfl (fun _ => rfl)
  · rw [h]; exact key m rfl (fun _ => rfl)
  · rw [h]
    refine key _ (hasB_len (setL_len m fs) es) (fun h3 => ?_)
    unfold holdsB
    rw [Bool.eq_iff_iff, List.all_eq_true, List.all_eq_true]
    have hm : ∀ e ∈ es, met (setL m fs) e = met m e := by
      intro e he
      obtain ⟨k, hk, _⟩ := hasB_in h3 he
      unfold met
      rw [hk, atW_congr (setL_other fs m (fun y hy _ => by
        obtain ⟨k2, hk2, _⟩ := hasB_in q1 hy
        have := hd e he y hy
        omega))]
    exact ⟨fun h9 e he => by rw [← hm e he]; exact h9 e he, fun h9 e he => by rw [hm e he]; exact h9 e he⟩
theorem swap_apart {m : List Wd} {a b : List En} (hd : ∀ x ∈ a, ∀ y ∈ b, x.loc ≠ y.loc) : ∃ p q r i k e f, swapN m a = (p, i, e) ∧ swapN p b = (r, k, f) ∧ swapN m b = (q, k, f) ∧ swapN q a = (r, i, e) := by
  have h1 := swap_far (m := m) (es := b) (fs := a) (fun x hx y hy h => hd y hy x hx h.symm)
  have h2 := swap_far (m := m) (es := a) (fs := b) hd
  refine ⟨(swapN m a).1, (swapN m b).1, _, (swapN m a).2.1, (swapN m b).2.1, (swapN m a).2.2, (swapN m b).2.2, rfl, h1, rfl, ?_⟩
  rw [h2]
  have hc : (if (swapN m b).2.1 = true then setL (swapN m a).1 b else (swapN m a).1) = (if (swapN m a).2.1 = true then setL (swapN m b).1 a else (swapN m b).1) := by
    rcases swaps_cases m a with ⟨_, ha⟩ | ⟨_, _, _, ha⟩ | ⟨_, _, _, ha⟩ | ⟨_, qa, _, ha⟩ <;> rcases swaps_cases m b with ⟨_, hb⟩ | ⟨_, _, _, hb⟩ | ⟨_, _, _, hb⟩ | ⟨_, qb, _, hb⟩ <;> rw [ha, hb] <;> try rfl
    simp only [if_true]
    refine setL_comm a b m (fun x hx y hy => ?_)
    obtain ⟨k1, hk1, _⟩ := hasB_in qa hx
    obtain ⟨k2, hk2, _⟩ := hasB_in qb hy
    have := hd x hx y hy
    omega
  rw [hc]

theorem EnOk.wfLoc {e : En} (h : EnOk e) : (Lit.int .i64 e.loc).wf = true := by
  have h1 := h.1
  have h2 := h.2
  exact WalkArith.wf_i64 (by omega)

/-- The slice v reads as k, and (where it holds something) lies outside block p. -/
def Nc (p : Nat) (w : World) (v : Value) (k : List Wd) : Prop := Wsl w v k ∧ (k ≠ [] → ∀ a n c, v = .slice (some a) n c → a.block ≠ p)
theorem Nc.of {p : Nat} {w w' : World} {v : Value} {k : List Wd} (h : Nc p w v k) (he : Ext w w') : Nc p w' v k := ⟨h.1.of wdE_len he, h.2⟩
theorem Nc.under {p : Nat} {w : World} {v : Value} {k : List Wd} (h : Wsl w v k) (hp : w.heap.size ≤ p) : Nc p w v k := by
  refine ⟨h, fun hn a n c e => ?_⟩
  obtain ⟨a', c', rfl, _, hl⟩ := h
  obtain ⟨b, o, rfl, hb, _⟩ := hl hn
  cases e
  show b ≠ p
  omega
theorem Nc.strong {p : Nat} {w w0 w' : World} {v v' : Value} {k k' : List Wd} (h : Nc p w v k) (hs : Wsl w' v' k') (ho : v' = v ∨ Ws w' w0.heap.size v' k') (hp : p < w0.heap.size) : Nc p w' v' k' := by
  rcases ho with rfl | ho
  · refine ⟨hs, fun hn => h.2 (fun h0 => hn ?_)⟩
    obtain ⟨a, c, e1, _⟩ := h.1
    obtain ⟨a', c', e2, _⟩ := hs
    rw [e1] at e2
    simp only [Value.slice.injEq] at e2
    rw [h0] at e2
    exact List.length_eq_zero_iff.1 e2.2.1.symm
  · refine ⟨hs, fun _ a n c e => ?_⟩
    subst e
    have := (World.ownsRow.lt ho a.block rfl).1
    omega
theorem Nc.set {p : Nat} {w : World} {v : Value} {k : List Wd} (h : Nc p w v k) (x : Value) : Wsl (w.setCell ⟨p, 0, none⟩ x) v k := by
  obtain ⟨⟨a, c, rfl, hm, hl⟩, hb⟩ := h
  refine ⟨a, c, rfl, hm, fun hn => ?_⟩
  obtain ⟨b, o, rfl, hbl, hc⟩ := hl hn
  have hbp : b ≠ p := hb hn ⟨b, o, none⟩ _ _ rfl
  refine ⟨b, o, rfl, by rw [World.size_setCell]; exact hbl, fun i y hy j hj => ?_⟩
  rw [World.cell?_setCell_other _ _ _ _ (by intro h9; exact hbp (congrArg Addr.block h9).symm)]
  exact hc i y hy j hj

set_option maxRecDepth 100000 in
set_option maxHeartbeats 2000000 in
theorem lapartm_any (w : World) (l : List Wd) (v : Value) (hv : Wsl w v l) (_ : ∀ a ∈ l, WdOk a) (es : List En) (ve : Value) (he : Es w ve es) (hok : ∀ e ∈ es, EnOk e) (fs : List En) (vf : Value) (hf : Es w vf fs) (hokf : ∀ e ∈ fs, EnOk e) :
    Calls Try.prog 6 #[v, ve, vf] w fun y w' => y = .returned (.bool true) ∧ ∃ r, w' = ext w r := by
  have HV := hid hv
  have HE := hid he
  have HF := hid hf
  have HOa := hid hok
  have HOb := hid hokf
  obtain ⟨a, c, rfl, ⟨hm, hlc⟩, _⟩ := hv
  obtain ⟨a2, c2, rfl, ⟨hm2, hlc2⟩, _⟩ := he
  obtain ⟨a3, c3, rfl, ⟨hm3, hlc3⟩, _⟩ := hf
  clear hok hokf
  cases hfw : fewB l.length [(a2, es.length, c2), (a3, fs.length, c3)]
  · have HFW := hid hfw
    clear hfw
    go_enter Try.func6, Try.ntmps6
    go_wp2_with fail
    go_call (few_any l.length a c [(a2, es.length, c2), (a3, fs.length, c3)] _ _ (lit_rows 2 rfl (by omega) rfl rfl rfl)) as y w' ⟨rfl, r1, rfl⟩
    rw [HFW.out]
    go_wp2_with fail
    go_call (awake_any _) as y w' ⟨rfl, r2, rfl⟩
    go_wp2_with fail
    go_ret
    exact ⟨rfl, by (show Ext _ _; repeat (first | with_reducible exact Ext.refl _ | with_reducible refine Ext.ext ?_ _ | with_reducible refine Ext.alloc ?_ _ | refine Ext.drew ?_ | refine Ext.drewN ?_ _ | exact Ext.refl _))⟩
  · have hl20 := (few_le hfw).1
    have he12 : es.length ≤ 12 := (few_le hfw).2.2 _ (List.mem_cons_self ..)
    have hf12 : fs.length ≤ 12 := (few_le hfw).2.2 (a3, fs.length, c3) (List.mem_cons_of_mem _ (List.mem_singleton_self _))
    have HFW := hid hfw
    clear hfw
    have HL := hid (show (newL l).length = l.length by simp [newL])
    have hmm := @run_makeMap Try.prog
    go_enter Try.func6, Try.ntmps6
    go_wp2_with fail
    go_call (few_any l.length a c [(a2, es.length, c2), (a3, fs.length, c3)] _ _ (lit_rows 2 rfl (by omega) rfl rfl rfl)) as y w' ⟨rfl, r1, rfl⟩
    rw [HFW.out]
    have HW := hid (show Ext w (ext (w.alloc (.cells #[.slice a2 es.length c2, .slice a3 fs.length c3] 30)) r1) by (show Ext _ _; repeat (first | with_reducible exact Ext.refl _ | with_reducible refine Ext.ext ?_ _ | with_reducible refine Ext.alloc ?_ _ | refine Ext.drew ?_ | refine Ext.drewN ?_ _ | exact Ext.refl _)))
    generalize (ext (w.alloc (.cells #[.slice a2 es.length c2, .slice a3 fs.length c3] 30)) r1) = W at *
    have HE1 := hid (HE.out.of enE_len HW.out)
    have HF1 := hid (HF.out.of enE_len HW.out)
    go_wp2_with fail
    go_loopw [33] (fun i wr => ∃ j : Nat, j ≤ es.length ∧ i = .int .i64 j ∧ Hid (LocSet wr W.heap.size j (locIn (es.take j))) ∧ Ext W wr) (fun i _ => es.length - (intOf i).toNat)
    case atStart => exact ⟨0, by omega, rfl, MapF.made (elBool Try.prog 4 Try.underlying4 Try.zeroBool) W _ rfl, by (show Ext _ _; repeat (first | with_reducible exact Ext.refl _ | with_reducible refine Ext.ext ?_ _ | with_reducible refine Ext.alloc ?_ _ | refine Ext.drew ?_ | refine Ext.drewN ?_ _ | exact Ext.refl _))⟩
    case round =>
      obtain ⟨j, hj, rfl, HMp, r, rfl⟩ := hrel
      by_cases hjl : j < es.length
      · have hd : decide (j < es.length) = true := decide_eq_true hjl
        obtain ⟨hnl, b, o, hab, hbl, hcs⟩ := Sl.at HE1.out (List.getElem?_eq_getElem hjl)
        have HX := hid (List.getElem?_eq_getElem hjl)
        have hwf := ((HOa).out _ (List.getElem_mem hjl)).wfLoc
        generalize es[j] = e at hcs HX hwf
        obtain ⟨loc, val, ver, ref, new, wr1⟩ := e
        subst hab
        have k0 := hcs 0 (by omega)
        have k1 := hcs 1 (by omega)
        have k2 := hcs 2 (by omega)
        have k3 := hcs 3 (by omega)
        have k4 := hcs 4 (by omega)
        have k5 := hcs 5 (by omega)
        simp [enE] at k0 k1 k2 k3 k4 k5
        clear hcs hnl
        dsimp only at hwf
        have HWF := hid hwf
        clear hwf
        have HA := hid (locIn_at HX.out)
        go_wp2_with (at_mapUpdate; refine map_put (elBool Try.prog 4 Try.underlying4 Try.zeroBool) Try.underlying40 Try.underlying51 rfl _ _ _ rfl W (by (show Ext _ _; repeat (first | with_reducible exact Ext.refl _ | with_reducible refine Ext.ext ?_ _ | with_reducible refine Ext.alloc ?_ _ | refine Ext.drew ?_ | refine Ext.drewN ?_ _ | exact Ext.refl _))) (Nat.le_refl _) rfl (MapF.alloc _ HMp.out _) (by omega) loc HWF.out true trivial rfl rfl ?_; intro w1 hE1 hM1 hG1)
        go_roundw
        case rel => exact ⟨j + 1, by omega, by go_num, by rw [← HA.out]; exact hM1, hE1⟩
        case measure => simp [intOf]; omega
      · have hd : decide (j < es.length) = false := decide_eq_false hjl
        obtain rfl : j = es.length := by omega
        rw [List.take_length] at HMp
        have H0 := hid (show ∀ y ∈ fs.take 0, locIn es y.loc = false by simp)
        go_wp2_with fail
        go_loopw [43] (fun i wr => ∃ j : Nat, j ≤ fs.length ∧ i = .int .i64 j ∧ Hid (∀ y ∈ fs.take j, locIn es y.loc = false) ∧ Hid (LocSet wr W.heap.size es.length (locIn es)) ∧ Ext W wr) (fun i _ => fs.length - (intOf i).toNat)
        case atStart => exact ⟨0, by omega, rfl, H0, HMp, by (show Ext _ _; repeat (first | with_reducible exact Ext.refl _ | with_reducible refine Ext.ext ?_ _ | with_reducible refine Ext.alloc ?_ _ | refine Ext.drew ?_ | refine Ext.drewN ?_ _ | exact Ext.refl _))⟩
        case round =>
          clear HMp H0 hd r
          obtain ⟨j, hj, rfl, HJ, HMp, r, rfl⟩ := hrel
          by_cases hjl : j < fs.length
          · have hd : decide (j < fs.length) = true := decide_eq_true hjl
            obtain ⟨hnl, b, o, hab, hbl, hcs⟩ := Sl.at HF1.out (List.getElem?_eq_getElem hjl)
            have HX := hid (List.getElem?_eq_getElem hjl)
            have hwf := ((HOb).out _ (List.getElem_mem hjl)).wfLoc
            generalize fs[j] = e at hcs HX hwf
            obtain ⟨loc, val, ver, ref, new, wr1⟩ := e
            subst hab
            have k0 := hcs 0 (by omega)
            have k1 := hcs 1 (by omega)
            have k2 := hcs 2 (by omega)
            have k3 := hcs 3 (by omega)
            have k4 := hcs 4 (by omega)
            have k5 := hcs 5 (by omega)
            simp [enE] at k0 k1 k2 k3 k4 k5
            clear hcs hnl
            dsimp only at hwf
            have HWF := hid hwf
            clear hwf
            cases hb : locIn es loc
            · have HB := hid hb
              have HN := hid (show ∀ y ∈ fs.take (j + 1), locIn es y.loc = false by
                intro y hy
                obtain ⟨hj9, hk9⟩ := List.getElem?_eq_some_iff.1 HX.out
                rw [List.take_succ_eq_append_getElem hj9, hk9] at hy
                rcases List.mem_append.1 hy with h9 | h9
                · exact HJ.out y h9
                · rw [List.mem_singleton.1 h9]; exact HB.out)
              clear hb
              go_wp2_with (at_lookup; refine map_get_as (elBool Try.prog 4 Try.underlying4 Try.zeroBool) Try.underlying40 Try.underlying51 rfl _ _ rfl rfl (MapF.alloc _ HMp.out _) loc HWF.out rfl (.bool false) (congrArg Value.bool HB.out) ?_)
              go_roundw
              case rel => exact ⟨j + 1, by omega, by go_num, HN, MapF.alloc _ HMp.out _, by (show Ext _ _; repeat (first | with_reducible exact Ext.refl _ | with_reducible refine Ext.ext ?_ _ | with_reducible refine Ext.alloc ?_ _ | refine Ext.drew ?_ | refine Ext.drewN ?_ _ | exact Ext.refl _))⟩
              case measure => simp [intOf]; omega
            · have HB := hid hb
              clear hb
              go_wp2_with (at_lookup; refine map_get_as (elBool Try.prog 4 Try.underlying4 Try.zeroBool) Try.underlying40 Try.underlying51 rfl _ _ rfl rfl (MapF.alloc _ HMp.out _) loc HWF.out rfl (.bool true) (congrArg Value.bool HB.out) ?_)
              go_call (awake_any _) as y w' ⟨rfl, r2, rfl⟩
              go_wp2_with fail
              go_ret
              exact ⟨rfl, HW.out.trans (by (show Ext _ _; repeat (first | with_reducible exact Ext.refl _ | with_reducible refine Ext.ext ?_ _ | with_reducible refine Ext.alloc ?_ _ | refine Ext.drew ?_ | refine Ext.drewN ?_ _ | exact Ext.refl _)))⟩
          · have hd : decide (j < fs.length) = false := decide_eq_false hjl
            have hdis : ∀ x ∈ es, ∀ y ∈ fs, x.loc ≠ y.loc := by
              intro x hx y hy hxy
              have h9 := HJ.out y (by rw [List.take_of_length_le (by omega)]; exact hy)
              have h8 : locIn es y.loc = true := List.any_eq_true.2 ⟨x, hx, by simpa using hxy⟩
              rw [h9] at h8; cases h8
            obtain ⟨p, q, rr, bi, bk, ee, ff, s1, s2, s3, s4⟩ := swap_apart (m := newL l) hdis
            have hp := hid (show p.length ≤ 100000 by have := swapN_len (newL l) es; rw [s1] at this; have := HL.out; simp only at *; omega)
            have hq := hid (show q.length ≤ 100000 by have := swapN_len (newL l) fs; rw [s3] at this; have := HL.out; simp only at *; omega)
            have hrl := hid (show rr.length ≤ 100000 by have h9 := swapN_len p fs; rw [s2] at h9; have := hp.out; simp only at *; omega)
            have hml := hid (show (newL l).length ≤ 100000 by have := HL.out; omega)
            have S1 := hid s1
            have S2 := hid s2
            have S3 := hid s3
            have S4 := hid s4
            clear s1 s2 s3 s4 hdis HJ HMp
            go_wp2_with fail
            go_call (new_any l _ _ (by omega) (HV.out.of wdE_len (HW.out.trans (by (show Ext _ _; repeat (first | with_reducible exact Ext.refl _ | with_reducible refine Ext.ext ?_ _ | with_reducible refine Ext.alloc ?_ _ | refine Ext.drew ?_ | refine Ext.drewN ?_ _ | exact Ext.refl _)))))) as y w' ⟨v1, rfl, ⟨r2, rfl⟩, hv1⟩
            have HM := hid (Sl.of_own wdE_len hv1)
            clear hv1
            have HX0 := hid (show Ext W (ext (ext W r) r2) by (show Ext _ _; repeat (first | with_reducible exact Ext.refl _ | with_reducible refine Ext.ext ?_ _ | with_reducible refine Ext.alloc ?_ _ | refine Ext.drew ?_ | refine Ext.drewN ?_ _ | exact Ext.refl _)))
            generalize ext (ext W r) r2 = X0 at *
            generalize newL l = m at *
            obtain ⟨a1, c1, rfl, _, _⟩ := HM.out
            go_wp2_with fail
            go_call (swap_any m es _ _ _ hml.out HOa.out (HM.out.of wdE_len (by (show Ext _ _; repeat (first | with_reducible exact Ext.refl _ | with_reducible refine Ext.ext ?_ _ | with_reducible refine Ext.alloc ?_ _ | refine Ext.drew ?_ | refine Ext.drewN ?_ _ | exact Ext.refl _)))) (HE1.out.of enE_len (HX0.out.trans (by (show Ext _ _; repeat (first | with_reducible exact Ext.refl _ | with_reducible refine Ext.ext ?_ _ | with_reducible refine Ext.alloc ?_ _ | refine Ext.drew ?_ | refine Ext.drewN ?_ _ | exact Ext.refl _)))))) as y w' ⟨v2, rfl, ⟨r3, rfl⟩, hv2⟩
            rw [S1.out] at hv2 ⊢
            dsimp only at hv2
            have HP := hid hv2
            clear hv2
            have hc12 : (ext (X0.alloc (.cells #[.slice a1 m.length c1] 27)) r3).cell? ⟨X0.heap.size, 0, none⟩ = some (.slice a1 m.length c1) := by simp [go_sem]
            have hl12 : X0.heap.size < (ext (X0.alloc (.cells #[.slice a1 m.length c1] 27)) r3).heap.size := by simp; omega
            have HX1 := hid (show Ext X0 (ext (X0.alloc (.cells #[.slice a1 m.length c1] 27)) r3) by (show Ext _ _; repeat (first | with_reducible exact Ext.refl _ | with_reducible refine Ext.ext ?_ _ | with_reducible refine Ext.alloc ?_ _ | refine Ext.drew ?_ | refine Ext.drewN ?_ _ | exact Ext.refl _)))
            generalize ext (X0.alloc (.cells #[.slice a1 m.length c1] 27)) r3 = X1 at *
            obtain ⟨a4, c4, rfl, _, _⟩ := HP.out
            go_wp2_with fail
            go_call (swap_strong p fs _ _ _ hp.out HOb.out (HP.out.of wdE_len (by (show Ext _ _; repeat (first | with_reducible exact Ext.refl _ | with_reducible refine Ext.ext ?_ _ | with_reducible refine Ext.alloc ?_ _ | refine Ext.drew ?_ | refine Ext.drewN ?_ _ | exact Ext.refl _)))) (HF1.out.of enE_len (HX0.out.trans (HX1.out.trans (by (show Ext _ _; repeat (first | with_reducible exact Ext.refl _ | with_reducible refine Ext.ext ?_ _ | with_reducible refine Ext.alloc ?_ _ | refine Ext.drew ?_ | refine Ext.drewN ?_ _ | exact Ext.refl _))))))) as y w' ⟨v3, rfl, ⟨r4, rfl⟩, hv3, ho3⟩
            rw [S2.out] at hv3 ho3 ⊢
            dsimp only at hv3 ho3
            have HR := hid ((Nc.under HP.out (Nat.le_refl X1.heap.size)).strong hv3 ho3 (by simp))
            have HMc := hid ((Nc.under (HM.out.of wdE_len HX1.out) (Nat.le_refl X1.heap.size)).of (show Ext X1 (ext (X1.alloc (.cells #[.slice a4 p.length c4] 27)) r4) by (show Ext _ _; repeat (first | with_reducible exact Ext.refl _ | with_reducible refine Ext.ext ?_ _ | with_reducible refine Ext.alloc ?_ _ | refine Ext.drew ?_ | refine Ext.drewN ?_ _ | exact Ext.refl _))))
            clear ho3
            obtain ⟨a5, c5, rfl, _, _⟩ := hv3
            have hcc : ((ext (X1.alloc (.cells #[.slice a4 p.length c4] 27)) r4).setCell ⟨X1.heap.size, 0, none⟩ (.slice a5 rr.length c5)).cell? ⟨X1.heap.size, 0, none⟩ = some (.slice a5 rr.length c5) := World.cell?_setCell_same _ _ _ (show _ = some (.slice a4 p.length c4) by simp [go_sem])
            have HCC := hid hcc
            clear hcc
            have HRc := hid (HR.out.set (.slice a5 rr.length c5))
            have HMd := hid (HMc.out.set (.slice a5 rr.length c5))
            have HY := hid (show Ext X1 ((ext (X1.alloc (.cells #[.slice a4 p.length c4] 27)) r4).setCell ⟨X1.heap.size, 0, none⟩ (.slice a5 rr.length c5)) from Ext.setCell (by (show Ext _ _; repeat (first | with_reducible exact Ext.refl _ | with_reducible refine Ext.ext ?_ _ | with_reducible refine Ext.alloc ?_ _ | refine Ext.drew ?_ | refine Ext.drewN ?_ _ | exact Ext.refl _))) (Nat.le_refl _) _)
            have HYl := hid (show X1.heap.size < ((ext (X1.alloc (.cells #[.slice a4 p.length c4] 27)) r4).setCell ⟨X1.heap.size, 0, none⟩ (.slice a5 rr.length c5)).heap.size by simp; omega)
            go_wp2_with fail
            generalize (ext (X1.alloc (.cells #[.slice a4 p.length c4] 27)) r4).setCell ⟨X1.heap.size, 0, none⟩ (.slice a5 rr.length c5) = Y at *
            have hl13 := HYl.out
            have hc13 := HCC.out
            go_call (swap_any m fs _ _ _ hml.out HOb.out HMd.out (HF1.out.of enE_len (HX0.out.trans (HX1.out.trans HY.out)))) as y w' ⟨v6, rfl, ⟨r5, rfl⟩, hv6⟩
            rw [S3.out] at hv6 ⊢
            dsimp only at hv6
            have HQ := hid hv6
            obtain ⟨a6, c6, rfl, _, _⟩ := hv6
            have HYr := hid (show Ext Y (ext Y r5) by (show Ext _ _; repeat (first | with_reducible exact Ext.refl _ | with_reducible refine Ext.ext ?_ _ | with_reducible refine Ext.alloc ?_ _ | refine Ext.drew ?_ | refine Ext.drewN ?_ _ | exact Ext.refl _)))
            have hc13' : (ext Y r5).cell? ⟨X1.heap.size, 0, none⟩ = some (.slice a5 rr.length c5) := HYr.out.cell hc13
            have hl13' : X1.heap.size < (ext Y r5).heap.size := Nat.lt_of_lt_of_le hl13 HYr.out.size
            have HRd := hid (HRc.out.of wdE_len HYr.out)
            have HZ := hid (HY.out.trans HYr.out)
            clear hc13 hl13
            generalize ext Y r5 = Z at *
            go_wp2_with fail
            go_call (swap_strong q es _ _ _ hq.out HOa.out (HQ.out.of wdE_len (by (show Ext _ _; repeat (first | with_reducible exact Ext.refl _ | with_reducible refine Ext.ext ?_ _ | with_reducible refine Ext.alloc ?_ _ | refine Ext.drew ?_ | refine Ext.drewN ?_ _ | exact Ext.refl _)))) (HE1.out.of enE_len (HX0.out.trans (HX1.out.trans (HZ.out.trans (by (show Ext _ _; repeat (first | with_reducible exact Ext.refl _ | with_reducible refine Ext.ext ?_ _ | with_reducible refine Ext.alloc ?_ _ | refine Ext.drew ?_ | refine Ext.drewN ?_ _ | exact Ext.refl _)))))))) as y w' ⟨v7, rfl, ⟨r6, rfl⟩, hv7, ho7⟩
            rw [S4.out] at hv7 ho7 ⊢
            dsimp only at hv7 ho7
            have HT := hid ((Nc.under HQ.out (Nat.le_refl Z.heap.size)).strong hv7 ho7 (by simp))
            have HRe := hid ((Nc.under HRd.out (Nat.le_refl Z.heap.size)).of (show Ext Z (ext (Z.alloc (.cells #[.slice a6 q.length c6] 27)) r6) by (show Ext _ _; repeat (first | with_reducible exact Ext.refl _ | with_reducible refine Ext.ext ?_ _ | with_reducible refine Ext.alloc ?_ _ | refine Ext.drew ?_ | refine Ext.drewN ?_ _ | exact Ext.refl _))))
            clear ho7
            obtain ⟨a7, c7, rfl, _, _⟩ := hv7
            have HC18 := hid (show ((ext (Z.alloc (.cells #[.slice a6 q.length c6] 27)) r6).setCell ⟨Z.heap.size, 0, none⟩ (.slice a7 rr.length c7)).cell? ⟨Z.heap.size, 0, none⟩ = some (.slice a7 rr.length c7) from World.cell?_setCell_same _ _ _ (show _ = some (.slice a6 q.length c6) by simp [go_sem]))
            have HTc := hid (HT.out.set (.slice a7 rr.length c7))
            have HRf := hid (HRe.out.set (.slice a7 rr.length c7))
            have HV := hid (show Ext Z ((ext (Z.alloc (.cells #[.slice a6 q.length c6] 27)) r6).setCell ⟨Z.heap.size, 0, none⟩ (.slice a7 rr.length c7)) from Ext.setCell (by (show Ext _ _; repeat (first | with_reducible exact Ext.refl _ | with_reducible refine Ext.ext ?_ _ | with_reducible refine Ext.alloc ?_ _ | refine Ext.drew ?_ | refine Ext.drewN ?_ _ | exact Ext.refl _))) (Nat.le_refl _) _)
            have HVl := hid (show Z.heap.size < ((ext (Z.alloc (.cells #[.slice a6 q.length c6] 27)) r6).setCell ⟨Z.heap.size, 0, none⟩ (.slice a7 rr.length c7)).heap.size by simp; omega)
            have hii : (bi == bi) = true := by simp
            have hkk : (bk == bk) = true := by simp
            have hee : (ee == ee) = true := by simp
            have hff : (ff == ff) = true := by simp
            go_wp2_with fail
            generalize (ext (Z.alloc (.cells #[.slice a6 q.length c6] 27)) r6).setCell ⟨Z.heap.size, 0, none⟩ (.slice a7 rr.length c7) = V at *
            have hc18 := HC18.out
            have hl18 := HVl.out
            have hc13v := HV.out.cell hc13'
            have hl13v : X1.heap.size < V.heap.size := Nat.lt_of_lt_of_le hl13' HV.out.size
            have hEq : eqB rr rr = true := decide_eq_true rfl
            refine wp_region_held_drew (S := fun w' => Ext V w' ∧ w'.cell? ⟨X1.heap.size, 0, none⟩ = some (.slice a5 rr.length c5) ∧ w'.cell? ⟨Z.heap.size, 0, none⟩ = some (.slice a7 rr.length c7)) (by kernel_rfl) (⟨by (show Ext _ _; repeat (first | with_reducible exact Ext.refl _ | with_reducible refine Ext.ext ?_ _ | with_reducible refine Ext.alloc ?_ _ | refine Ext.drew ?_ | refine Ext.drewN ?_ _ | exact Ext.refl _)), by simp [go_sem, hl13v, hc13v], by simp [go_sem, hl18, hc18]⟩) (fun hHeld => ?_)
            refine take_only 0 (oi := ⟨_, _, _, _, _, _⟩) (by kernel_rfl) rfl (fun K hK => ?_)
            go_simp
            first
              | (go_at_call 9; refine (awake_any _).mono ?_; rintro e w' ⟨rfl, r7, rfl⟩)
              | (go_at_call 21; refine (words_any rr _ _ hrl.out (HTc.out.of wdE_len (by (show Ext _ _; repeat (first | with_reducible exact Ext.refl _ | with_reducible refine Ext.ext ?_ _ | with_reducible refine Ext.alloc ?_ _ | refine Ext.drew ?_ | refine Ext.drewN ?_ _ | exact Ext.refl _))))).mono ?_; rintro e w' ⟨v8, rfl, ⟨r8, rfl⟩, hv8⟩)
              | (go_at_call 18; refine (is_any rr rr _ _ _ hrl.out (HRf.out.of wdE_len (by (show Ext _ _; repeat (first | with_reducible exact Ext.refl _ | with_reducible refine Ext.ext ?_ _ | with_reducible refine Ext.alloc ?_ _ | refine Ext.drew ?_ | refine Ext.drewN ?_ _ | exact Ext.refl _)))) ((Sl.of_own wdE_len hv8).of wdE_len (by (show Ext _ _; repeat (first | with_reducible exact Ext.refl _ | with_reducible refine Ext.ext ?_ _ | with_reducible refine Ext.alloc ?_ _ | refine Ext.drew ?_ | refine Ext.drewN ?_ _ | exact Ext.refl _))))).mono ?_; rintro e w' ⟨rfl, r10, rfl⟩; rw [hEq])
            have hOld := hHeld
            clear hHeld
            refine hK.out _ _ (⟨by (show Ext _ _; repeat (first | with_reducible exact Ext.refl _ | with_reducible refine Ext.ext ?_ _ | with_reducible refine Ext.alloc ?_ _ | refine Ext.drew ?_ | refine Ext.drewN ?_ _ | exact Ext.refl _)), by simp [go_sem, hl13v, hc13v], by simp [go_sem, hl18, hc18]⟩) (fun hHeld => ?_)
            clear hOld hK K
            (try simp only [Act.put, List.setIfInBounds_toArray, List.set_cons_zero, List.set_cons_succ])
            refine take_met 1 (oi := ⟨_, _, _, _, _, _⟩) (v := ?_) (by kernel_rfl) rfl (by rfl) (fun _ _ _ h => h) (by assumption) ?_ ?_
            rotate_left 1
            · intro w hSw
              try dsimp only at hSw
              go_simp
              try with_reducible rfl
            (try simp only [Act.put, List.setIfInBounds_toArray, List.set_cons_zero, List.set_cons_succ])
            refine take_met 2 (oi := ⟨_, _, _, _, _, _⟩) (v := ?_) (by kernel_rfl) rfl (by rfl) (fun _ _ _ h => h) (by assumption) ?_ ?_
            rotate_left 1
            · intro w hSw
              try dsimp only at hSw
              go_simp
              try with_reducible rfl
            (try simp only [Act.put, List.setIfInBounds_toArray, List.set_cons_zero, List.set_cons_succ])
            refine take_met 3 (oi := ⟨_, _, _, _, _, _⟩) (v := ?_) (by kernel_rfl) rfl (by rfl) (fun _ _ _ h => h) (by assumption) ?_ ?_
            rotate_left 1
            · intro w hSw
              try dsimp only at hSw
              go_simp
              try with_reducible rfl
            (try simp only [Act.put, List.setIfInBounds_toArray, List.set_cons_zero, List.set_cons_succ])
            refine take_met 4 (oi := ⟨_, _, _, _, _, _⟩) (v := ?_) (by kernel_rfl) rfl (by rfl) (fun _ _ _ h => h) (by assumption) ?_ ?_
            rotate_left 1
            · intro w hSw
              try dsimp only at hSw
              go_simp
              try with_reducible rfl
            (try simp only [Act.put, List.setIfInBounds_toArray, List.set_cons_zero, List.set_cons_succ])
            refine take_met 5 (oi := ⟨_, _, _, _, _, _⟩) (v := ?_) (by kernel_rfl) rfl (by rfl) (fun _ _ _ h => h) (by assumption) ?_ ?_
            rotate_left 1
            · intro w hSw
              try dsimp only at hSw
              go_simp
              try with_reducible rfl
            (try simp only [Act.put, List.setIfInBounds_toArray, List.set_cons_zero, List.set_cons_succ])
            refine take_met 6 (oi := ⟨_, _, _, _, _, _⟩) (v := ?_) (by kernel_rfl) rfl (by rfl) (fun _ _ _ h => h) (by assumption) ?_ ?_
            rotate_left 1
            · intro w hSw
              try dsimp only at hSw
              go_simp
              try with_reducible rfl
            (try simp only [Act.put, List.setIfInBounds_toArray, List.set_cons_zero, List.set_cons_succ])
            refine take_met 7 (oi := ⟨_, _, _, _, _, _⟩) (v := ?_) (by kernel_rfl) rfl (by rfl) (fun _ _ _ h => h) (by assumption) ?_ ?_
            rotate_left 1
            · intro w hSw
              try dsimp only at hSw
              go_simp
              try with_reducible rfl
            (try simp only [Act.put, List.setIfInBounds_toArray, List.set_cons_zero, List.set_cons_succ])
            refine take_met 8 (oi := ⟨_, _, _, _, _, _⟩) (v := ?_) (by kernel_rfl) rfl (by rfl) (fun _ _ _ h => h) (by assumption) ?_ ?_
            rotate_left 1
            · intro w hSw
              try dsimp only at hSw
              go_simp
              try with_reducible rfl
            (try simp only [Act.put, List.setIfInBounds_toArray, List.set_cons_zero, List.set_cons_succ])
            refine take_met 9 (oi := ⟨_, _, _, _, _, _⟩) (v := ?_) (by kernel_rfl) rfl (by rfl) (fun _ _ _ h => h) (by assumption) ?_ ?_
            rotate_left 1
            · intro w hSw
              try dsimp only at hSw
              go_simp
              try with_reducible rfl
            (try simp only [Act.put, List.setIfInBounds_toArray, List.set_cons_zero, List.set_cons_succ])
            refine take_met 10 (oi := ⟨_, _, _, _, _, _⟩) (v := ?_) (by kernel_rfl) rfl (by rfl) (fun _ _ _ h => h) (by assumption) ?_ ?_
            rotate_left 1
            · intro w hSw
              try dsimp only at hSw
              go_simp
              try with_reducible rfl
            (try simp only [Act.put, List.setIfInBounds_toArray, List.set_cons_zero, List.set_cons_succ])
            refine take_met 11 (oi := ⟨_, _, _, _, _, _⟩) (v := ?_) (by kernel_rfl) rfl (by rfl) (fun _ _ _ h => h) (by assumption) ?_ ?_
            rotate_left 1
            · intro w hSw
              try dsimp only at hSw
              go_simp
              try with_reducible rfl
            (try simp only [Act.put, List.setIfInBounds_toArray, List.set_cons_zero, List.set_cons_succ])
            refine take_met 12 (oi := ⟨_, _, _, _, _, _⟩) (v := ?_) (by kernel_rfl) rfl (by rfl) (fun _ _ _ h => h) (by assumption) ?_ ?_
            rotate_left 1
            · intro w hSw
              try dsimp only at hSw
              go_simp
              try with_reducible rfl
            (try simp only [Act.put, List.setIfInBounds_toArray, List.set_cons_zero, List.set_cons_succ])
            refine take_met 13 (oi := ⟨_, _, _, _, _, _⟩) (v := ?_) (by kernel_rfl) rfl (by rfl) (fun _ _ _ h => h) (by assumption) ?_ ?_
            rotate_left 1
            · intro w hSw
              try dsimp only at hSw
              go_simp
              try with_reducible rfl
            (try simp only [Act.put, List.setIfInBounds_toArray, List.set_cons_zero, List.set_cons_succ])
            refine take_met 14 (oi := ⟨_, _, _, _, _, _⟩) (v := ?_) (by kernel_rfl) rfl (by rfl) (fun _ _ _ h => h) (by assumption) ?_ ?_
            rotate_left 1
            · intro w hSw
              try dsimp only at hSw
              go_simp
              try with_reducible rfl
            (try simp only [Act.put, List.setIfInBounds_toArray, List.set_cons_zero, List.set_cons_succ])
            refine take_met 15 (oi := ⟨_, _, _, _, _, _⟩) (v := ?_) (by kernel_rfl) rfl (by rfl) (fun _ _ _ h => h) (by assumption) ?_ ?_
            rotate_left 1
            · intro w hSw
              try dsimp only at hSw
              go_simp
              try with_reducible rfl
            (try simp only [Act.put, List.setIfInBounds_toArray, List.set_cons_zero, List.set_cons_succ])
            refine take_met 16 (oi := ⟨_, _, _, _, _, _⟩) (v := ?_) (by kernel_rfl) rfl (by rfl) (fun _ _ _ h => h) (by assumption) ?_ ?_
            rotate_left 1
            · intro w hSw
              try dsimp only at hSw
              go_simp
              try with_reducible rfl
            (try simp only [Act.put, List.setIfInBounds_toArray, List.set_cons_zero, List.set_cons_succ])
            refine take_met 17 (oi := ⟨_, _, _, _, _, _⟩) (v := ?_) (by kernel_rfl) rfl (by rfl) (fun _ _ _ h => h) (by assumption) ?_ ?_
            rotate_left 1
            · intro w hSw
              try dsimp only at hSw
              go_simp
              try with_reducible rfl
            (try simp only [Act.put, List.setIfInBounds_toArray, List.set_cons_zero, List.set_cons_succ])
            refine take_met 18 (oi := ⟨_, _, _, _, _, _⟩) (v := ?_) (by kernel_rfl) rfl (by rfl) (fun _ _ _ h => h) (by assumption) ?_ ?_
            rotate_left 1
            · intro w hSw
              try dsimp only at hSw
              go_simp
              try with_reducible rfl
            (try simp only [Act.put, List.setIfInBounds_toArray, List.set_cons_zero, List.set_cons_succ])
            refine take_met 19 (oi := ⟨_, _, _, _, _, _⟩) (v := ?_) (by kernel_rfl) rfl (by rfl) (fun _ _ _ h => h) (by assumption) ?_ ?_
            rotate_left 1
            · intro w hSw
              try dsimp only at hSw
              go_simp
              try with_reducible rfl
            (try simp only [Act.put, List.setIfInBounds_toArray, List.set_cons_zero, List.set_cons_succ])
            refine take_met 20 (oi := ⟨_, _, _, _, _, _⟩) (v := ?_) (by kernel_rfl) rfl (by rfl) (fun _ _ _ h => h) (by assumption) ?_ ?_
            rotate_left 1
            · intro w hSw
              try dsimp only at hSw
              go_simp
              try with_reducible rfl
            (try simp only [Act.put, List.setIfInBounds_toArray, List.set_cons_zero, List.set_cons_succ])
            refine take_met 21 (oi := ⟨_, _, _, _, _, _⟩) (v := ?_) (by kernel_rfl) rfl (by rfl) (fun _ _ _ h => h) (by assumption) ?_ ?_
            rotate_left 1
            · intro w hSw
              try dsimp only at hSw
              go_simp
              try with_reducible rfl
            (try simp only [Act.put, List.setIfInBounds_toArray, List.set_cons_zero, List.set_cons_succ])
            refine take_met 22 (oi := ⟨_, _, _, _, _, _⟩) (v := ?_) (by kernel_rfl) rfl (by rfl) (fun _ _ _ h => h) (by assumption) ?_ ?_
            rotate_left 1
            · intro w hSw
              try dsimp only at hSw
              go_simp
              try with_reducible rfl
            (try simp only [Act.put, List.setIfInBounds_toArray, List.set_cons_zero, List.set_cons_succ])
            refine take_met 23 (oi := ⟨_, _, _, _, _, _⟩) (v := ?_) (by kernel_rfl) rfl (by rfl) (fun _ _ _ h => h) (by assumption) ?_ ?_
            rotate_left 1
            · intro w hSw
              try dsimp only at hSw
              go_simp
              try with_reducible rfl
            (try simp only [Act.put, List.setIfInBounds_toArray, List.set_cons_zero, List.set_cons_succ])
            refine take_only 24 (oi := ⟨_, _, _, _, _, _⟩) (by kernel_rfl) rfl (fun K hK => ?_)
            go_simp
            first
              | (go_at_call 9; refine (awake_any _).mono ?_; rintro e w' ⟨rfl, r7, rfl⟩)
              | (go_at_call 21; refine (words_any rr _ _ hrl.out (HTc.out.of wdE_len (by (show Ext _ _; repeat (first | with_reducible exact Ext.refl _ | with_reducible refine Ext.ext ?_ _ | with_reducible refine Ext.alloc ?_ _ | refine Ext.drew ?_ | refine Ext.drewN ?_ _ | exact Ext.refl _))))).mono ?_; rintro e w' ⟨v8, rfl, ⟨r8, rfl⟩, hv8⟩)
              | (go_at_call 18; refine (is_any rr rr _ _ _ hrl.out (HRf.out.of wdE_len (by (show Ext _ _; repeat (first | with_reducible exact Ext.refl _ | with_reducible refine Ext.ext ?_ _ | with_reducible refine Ext.alloc ?_ _ | refine Ext.drew ?_ | refine Ext.drewN ?_ _ | exact Ext.refl _)))) ((Sl.of_own wdE_len hv8).of wdE_len (by (show Ext _ _; repeat (first | with_reducible exact Ext.refl _ | with_reducible refine Ext.ext ?_ _ | with_reducible refine Ext.alloc ?_ _ | refine Ext.drew ?_ | refine Ext.drewN ?_ _ | exact Ext.refl _))))).mono ?_; rintro e w' ⟨rfl, r10, rfl⟩; rw [hEq])
            have hOld := hHeld
            clear hHeld
            refine hK.out _ _ (⟨by (show Ext _ _; repeat (first | with_reducible exact Ext.refl _ | with_reducible refine Ext.ext ?_ _ | with_reducible refine Ext.alloc ?_ _ | refine Ext.drew ?_ | refine Ext.drewN ?_ _ | exact Ext.refl _)), by simp [go_sem, hl13v, hc13v], by simp [go_sem, hl18, hc18]⟩) (fun hHeld => ?_)
            clear hOld hK K
            (try simp only [Act.put, List.setIfInBounds_toArray, List.set_cons_zero, List.set_cons_succ])
            refine take_only 25 (oi := ⟨_, _, _, _, _, _⟩) (by kernel_rfl) rfl (fun K hK => ?_)
            go_simp
            first
              | (go_at_call 9; refine (awake_any _).mono ?_; rintro e w' ⟨rfl, r7, rfl⟩)
              | (go_at_call 21; refine (words_any rr _ _ hrl.out (HTc.out.of wdE_len (by (show Ext _ _; repeat (first | with_reducible exact Ext.refl _ | with_reducible refine Ext.ext ?_ _ | with_reducible refine Ext.alloc ?_ _ | refine Ext.drew ?_ | refine Ext.drewN ?_ _ | exact Ext.refl _))))).mono ?_; rintro e w' ⟨v8, rfl, ⟨r8, rfl⟩, hv8⟩)
              | (go_at_call 18; refine (is_any rr rr _ _ _ hrl.out (HRf.out.of wdE_len (by (show Ext _ _; repeat (first | with_reducible exact Ext.refl _ | with_reducible refine Ext.ext ?_ _ | with_reducible refine Ext.alloc ?_ _ | refine Ext.drew ?_ | refine Ext.drewN ?_ _ | exact Ext.refl _)))) ((Sl.of_own wdE_len hv8).of wdE_len (by (show Ext _ _; repeat (first | with_reducible exact Ext.refl _ | with_reducible refine Ext.ext ?_ _ | with_reducible refine Ext.alloc ?_ _ | refine Ext.drew ?_ | refine Ext.drewN ?_ _ | exact Ext.refl _))))).mono ?_; rintro e w' ⟨rfl, r10, rfl⟩; rw [hEq])
            have hOld := hHeld
            clear hHeld
            refine hK.out _ _ (⟨by (show Ext _ _; repeat (first | with_reducible exact Ext.refl _ | with_reducible refine Ext.ext ?_ _ | with_reducible refine Ext.alloc ?_ _ | refine Ext.drew ?_ | refine Ext.drewN ?_ _ | exact Ext.refl _)), by simp [go_sem, hl13v, hc13v], by simp [go_sem, hl18, hc18]⟩) (fun hHeld => ?_)
            clear hOld hK K
            (try simp only [Act.put, List.setIfInBounds_toArray, List.set_cons_zero, List.set_cons_succ])
            refine take_met 26 (oi := ⟨_, _, _, _, _, _⟩) (v := ?_) (by kernel_rfl) rfl (by rfl) (fun _ _ _ h => h) (by assumption) ?_ ?_
            rotate_left 1
            · intro w hSw
              try dsimp only at hSw
              go_simp
              try with_reducible rfl
            (try simp only [Act.put, List.setIfInBounds_toArray, List.set_cons_zero, List.set_cons_succ])
            refine take_met 27 (oi := ⟨_, _, _, _, _, _⟩) (v := ?_) (by kernel_rfl) rfl (by rfl) (fun _ _ _ h => h) (by assumption) ?_ ?_
            rotate_left 1
            · intro w hSw
              try dsimp only at hSw
              go_simp
              try with_reducible rfl
            (try simp only [Act.put, List.setIfInBounds_toArray, List.set_cons_zero, List.set_cons_succ])
            refine wpAnyH_done (by kernel_rfl) ?_ _
            go_wp2_with fail
            go_ret
            exact ⟨rfl, HW.out.trans (HX0.out.trans (HX1.out.trans (HZ.out.trans (HV.out.trans hHeld.1))))⟩

end Go.Proofs.Ytdodipejckigoaa
