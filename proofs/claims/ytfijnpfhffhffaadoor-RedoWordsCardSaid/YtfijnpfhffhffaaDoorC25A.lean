/- The walk of law 25's words: words of the layout's size, or none. -/
import Derived.Test.YtfijnpfhffhffaaDoorC20C
namespace Go.Proofs.YtfijnpfhffhffaaDoor
set_option linter.unusedSimpArgs false
set_option linter.unusedVariables false
open Go.RowKit

theorem ann31 (q : Nat) (hq : q < 3) : atN 3 8 1 1 (wrap64 ((q : Int) + 1 - 1)) 0 = ((8 + q * 8 : Nat) : Int) ∧ atN 3 8 1 1 (wrap64 ((q : Int) + 1 - 1)) 1 = ((9 + q * 8 : Nat) : Int) := by
  have h : q = 0 ∨ q = 1 ∨ q = 2 := by omega
  rcases h with rfl | rfl | rfl
  · exact ⟨(show atN 3 8 1 1 (wrap64 0) 0 = 8 by kernel_rfl), (show atN 3 8 1 1 (wrap64 0) 1 = 9 by kernel_rfl)⟩
  · exact ⟨(show atN 3 8 1 1 (wrap64 1) 0 = 16 by kernel_rfl), (show atN 3 8 1 1 (wrap64 1) 1 = 17 by kernel_rfl)⟩
  · exact ⟨(show atN 3 8 1 1 (wrap64 2) 0 = 24 by kernel_rfl), (show atN 3 8 1 1 (wrap64 2) 1 = 25 by kernel_rfl)⟩
/-- The value of a word is written. -/
theorem Ws.val {w : World} {base g n c : Nat} {l : List Wd} (h : Ws w base (.slice (some ⟨g, 0, none⟩) n c) l) {q : Nat} {x y z : Int} (hx : l[q]? = some (x, y, z)) (u : Int) : Ws (w.setCell ⟨g, q * 3, none⟩ (.int .i64 u)) base (.slice (some ⟨g, 0, none⟩) n c) (l.set q (u, y, z)) :=
  Own.set wdE_len h hx (u, y, z) (j := 0) (by omega) (.int .i64 u) rfl (o := q * 3) (by omega)

section
variable (a0 a1 a2 a3 a4 a5 b0 b1 b2 b3 b4 b5 : Int) (o0 o1 o2 : Bool) (s0 s1 s2 w0 w1 w2 w3 w4 w5 : Int)
set_option maxRecDepth 100000 in
set_option maxHeartbeats 16000000 in
theorem words25_any (hva : ∀ a ∈ [a0, a1, a2, a3, a4, a5], -128 ≤ a ∧ a ≤ 127) (hvb : ∀ a ∈ [b0, b1, b2, b3, b4, b5], 0 ≤ a ∧ a ≤ 255) (hst : ∀ a ∈ [s0, s1, s2], 0 ≤ a ∧ a ≤ 255) (how : ∀ a ∈ [w0, w1, w2, w3, w4, w5], -128 ≤ a ∧ a ≤ 127)
    (sv : Value) (sw : List Swp) (av nv : Value) (la : List Int) (ln : List Wd) (hla : ∀ a ∈ la, 0 ≤ a ∧ a ≤ 65535) (hln : ∀ a ∈ ln, WdOk a) (w : World) (hs : Szs w) (hv : Sl w 1 swE sv sw) (hk : ∀ a ∈ sw, SwOk w a) (hav : Sl w 1 u16E av la) (hnv : Sl w 3 wdE nv ln) :
    Calls Tryd.prog 7 #[.agg #[.int .i8 a0, .int .i8 a1, .int .i8 a2, .int .i8 a3, .int .i8 a4, .int .i8 a5, .int .u8 b0, .int .u8 b1, .int .u8 b2, .int .u8 b3, .int .u8 b4, .int .u8 b5, sv, .bool o0, .bool o1, .bool o2, .int .u8 s0, .int .u8 s1, .int .u8 s2, .int .i8 w0, .int .i8 w1, .int .i8 w2, .int .i8 w3, .int .i8 w4, .int .i8 w5, av, nv]] w fun y w' => W20Post w y w' := by
  have HS := hid hs
  have HV := hid hv
  have HK := hid hk
  have HA := hid hva
  have HB := hid hvb
  have HSt := hid hst
  have HOw := hid how
  have HAv := hid hav
  have HNv := hid hnv
  have HLa := hid hla
  have HLn := hid hln
  obtain ⟨sa, sc, rfl, hm, hq⟩ := hv
  clear hm hq
  obtain ⟨aa, ac, rfl, hm, hq⟩ := hav
  clear hm hq
  obtain ⟨na, nc, rfl, hm, hq⟩ := hnv
  clear hm hq hs hk hva hvb hst how hla hln
  by_cases hbad : few20 sw = false ∨ (20 : Int) < (la.length : Int) ∨ (20 : Int) < (ln.length : Int)
  · have hcs : few20 sw = false ∨ (few20 sw = true ∧ (20 : Int) < (la.length : Int)) ∨ (few20 sw = true ∧ ¬ (20 : Int) < (la.length : Int) ∧ (20 : Int) < (ln.length : Int)) := by
      cases hf : few20 sw
      · exact .inl rfl
      · rw [hf] at hbad
        by_cases h : (20 : Int) < (la.length : Int)
        · exact .inr (.inl ⟨rfl, h⟩)
        · rcases hbad with h1 | h1 | h1
          · cases h1
          · exact absurd h1 h
          · exact .inr (.inr ⟨rfl, h, h1⟩)
    clear hbad
    rcases hcs with hf | ⟨hf, h1⟩ | ⟨hf, h1, h2⟩
    · have HF := hid hf
      clear hf
      go_enter Tryd.func7, Tryd.ntmps7
      go_wp2_with fail
      refine (few20_any a0 a1 a2 a3 a4 a5 b0 b1 b2 b3 b4 b5 _ sw _ (HV.out.of swE_len (by (show Ext _ _; repeat (first | with_reducible (refine Hid.out ?_; assumption) | with_reducible exact Ext.refl _ | with_reducible refine Ext.ext ?_ _ | with_reducible refine Ext.alloc ?_ _ | refine Ext.drew ?_ | refine Ext.drewN ?_ _ | exact Ext.refl _)))) (fun a ha => (HK.out a ha).of (by (show Ext _ _; repeat (first | with_reducible (refine Hid.out ?_; assumption) | with_reducible exact Ext.refl _ | with_reducible refine Ext.ext ?_ _ | with_reducible refine Ext.alloc ?_ _ | refine Ext.drew ?_ | refine Ext.drewN ?_ _ | exact Ext.refl _))))).mono ?_
      rintro e w' ⟨rfl, r1, rfl⟩
      rw [HF.out]
      go_wp2_with fail
      go_ret2
      exact ⟨by (show Ext _ _; repeat (first | with_reducible (refine Hid.out ?_; assumption) | with_reducible exact Ext.refl _ | with_reducible refine Ext.ext ?_ _ | with_reducible refine Ext.alloc ?_ _ | refine Ext.drew ?_ | refine Ext.drewN ?_ _ | exact Ext.refl _)), .inl rfl⟩
    · have HF := hid hf
      have hd1 : decide ((20 : Int) < (la.length : Int)) = true := decide_eq_true h1
      clear hf
      go_enter Tryd.func7, Tryd.ntmps7
      go_wp2_with fail
      refine (few20_any a0 a1 a2 a3 a4 a5 b0 b1 b2 b3 b4 b5 _ sw _ (HV.out.of swE_len (by (show Ext _ _; repeat (first | with_reducible (refine Hid.out ?_; assumption) | with_reducible exact Ext.refl _ | with_reducible refine Ext.ext ?_ _ | with_reducible refine Ext.alloc ?_ _ | refine Ext.drew ?_ | refine Ext.drewN ?_ _ | exact Ext.refl _)))) (fun a ha => (HK.out a ha).of (by (show Ext _ _; repeat (first | with_reducible (refine Hid.out ?_; assumption) | with_reducible exact Ext.refl _ | with_reducible refine Ext.ext ?_ _ | with_reducible refine Ext.alloc ?_ _ | refine Ext.drew ?_ | refine Ext.drewN ?_ _ | exact Ext.refl _))))).mono ?_
      rintro e w' ⟨rfl, r1, rfl⟩
      rw [HF.out]
      go_wp2_with fail
      go_ret2
      exact ⟨by (show Ext _ _; repeat (first | with_reducible (refine Hid.out ?_; assumption) | with_reducible exact Ext.refl _ | with_reducible refine Ext.ext ?_ _ | with_reducible refine Ext.alloc ?_ _ | refine Ext.drew ?_ | refine Ext.drewN ?_ _ | exact Ext.refl _)), .inl rfl⟩
    · have HF := hid hf
      have hd1 : decide ((20 : Int) < (la.length : Int)) = false := decide_eq_false h1
      have hd2 : decide ((20 : Int) < (ln.length : Int)) = true := decide_eq_true h2
      clear hf
      go_enter Tryd.func7, Tryd.ntmps7
      go_wp2_with fail
      refine (few20_any a0 a1 a2 a3 a4 a5 b0 b1 b2 b3 b4 b5 _ sw _ (HV.out.of swE_len (by (show Ext _ _; repeat (first | with_reducible (refine Hid.out ?_; assumption) | with_reducible exact Ext.refl _ | with_reducible refine Ext.ext ?_ _ | with_reducible refine Ext.alloc ?_ _ | refine Ext.drew ?_ | refine Ext.drewN ?_ _ | exact Ext.refl _)))) (fun a ha => (HK.out a ha).of (by (show Ext _ _; repeat (first | with_reducible (refine Hid.out ?_; assumption) | with_reducible exact Ext.refl _ | with_reducible refine Ext.ext ?_ _ | with_reducible refine Ext.alloc ?_ _ | refine Ext.drew ?_ | refine Ext.drewN ?_ _ | exact Ext.refl _))))).mono ?_
      rintro e w' ⟨rfl, r1, rfl⟩
      rw [HF.out]
      go_wp2_with fail
      go_ret2
      exact ⟨by (show Ext _ _; repeat (first | with_reducible (refine Hid.out ?_; assumption) | with_reducible exact Ext.refl _ | with_reducible refine Ext.ext ?_ _ | with_reducible refine Ext.alloc ?_ _ | refine Ext.drew ?_ | refine Ext.drewN ?_ _ | exact Ext.refl _)), .inl rfl⟩
  have HF := hid (show few20 sw = true by cases hf : few20 sw; exact absurd (.inl hf) hbad; rfl)
  have h1 : ¬ (20 : Int) < (la.length : Int) := fun h => hbad (.inr (.inl h))
  have h2 : ¬ (20 : Int) < (ln.length : Int) := fun h => hbad (.inr (.inr h))
  have hd1 : decide ((20 : Int) < (la.length : Int)) = false := decide_eq_false h1
  have hd2 : decide ((20 : Int) < (ln.length : Int)) = false := decide_eq_false h2
  clear hbad
  go_enter Tryd.func7, Tryd.ntmps7
  go_wp2_with fail
  refine (few20_any a0 a1 a2 a3 a4 a5 b0 b1 b2 b3 b4 b5 _ sw _ (HV.out.of swE_len (by (show Ext _ _; repeat (first | with_reducible (refine Hid.out ?_; assumption) | with_reducible exact Ext.refl _ | with_reducible refine Ext.ext ?_ _ | with_reducible refine Ext.alloc ?_ _ | refine Ext.drew ?_ | refine Ext.drewN ?_ _ | exact Ext.refl _)))) (fun a ha => (HK.out a ha).of (by (show Ext _ _; repeat (first | with_reducible (refine Hid.out ?_; assumption) | with_reducible exact Ext.refl _ | with_reducible refine Ext.ext ?_ _ | with_reducible refine Ext.alloc ?_ _ | refine Ext.drew ?_ | refine Ext.drewN ?_ _ | exact Ext.refl _))))).mono ?_
  rintro e w' ⟨rfl, r1, rfl⟩
  rw [HF.out]
  go_wp2_with fail
  refine (words20_any a0 a1 a2 a3 a4 a5 b0 b1 b2 b3 b4 b5 HA.out HB.out _ sw _ (HS.out.of (by (show Ext _ _; repeat (first | with_reducible (refine Hid.out ?_; assumption) | with_reducible exact Ext.refl _ | with_reducible refine Ext.ext ?_ _ | with_reducible refine Ext.alloc ?_ _ | refine Ext.drew ?_ | refine Ext.drewN ?_ _ | exact Ext.refl _)))) (HV.out.of swE_len (by (show Ext _ _; repeat (first | with_reducible (refine Hid.out ?_; assumption) | with_reducible exact Ext.refl _ | with_reducible refine Ext.ext ?_ _ | with_reducible refine Ext.alloc ?_ _ | refine Ext.drew ?_ | refine Ext.drewN ?_ _ | exact Ext.refl _)))) (fun a ha => (HK.out a ha).of (by (show Ext _ _; repeat (first | with_reducible (refine Hid.out ?_; assumption) | with_reducible exact Ext.refl _ | with_reducible refine Ext.ext ?_ _ | with_reducible refine Ext.alloc ?_ _ | refine Ext.drew ?_ | refine Ext.drewN ?_ _ | exact Ext.refl _)))) HF.out).mono ?_
  rintro y w' ⟨⟨r2, rfl⟩, rfl | ⟨v4, M0, rfl, hI0, hv4⟩⟩
  · go_wp2_with fail
    go_ret2
    exact ⟨by (show Ext _ _; repeat (first | with_reducible (refine Hid.out ?_; assumption) | with_reducible exact Ext.refl _ | with_reducible refine Ext.ext ?_ _ | with_reducible refine Ext.alloc ?_ _ | refine Ext.drew ?_ | refine Ext.drewN ?_ _ | exact Ext.refl _)), .inl rfl⟩
  obtain ⟨g, c4, rfl, hgl, hgs⟩ := Ws.open hv4 (by rw [hI0.1]; omega)
  rw [hI0.1] at hv4 ⊢
  have HI0 := hid hI0
  clear hI0
  go_wp2_with fail
  refine (plan20_any _).mono ?_
  rintro e w' ⟨rfl, r3, rfl⟩
  go_wp2_with fail
  generalize hU : World.alloc _ _ = U
  have HEU := hid (show Ext w U by rw [← hU]; (show Ext _ _; repeat (first | with_reducible (refine Hid.out ?_; assumption) | with_reducible exact Ext.refl _ | with_reducible refine Ext.ext ?_ _ | with_reducible refine Ext.alloc ?_ _ | refine Ext.drew ?_ | refine Ext.drewN ?_ _ | exact Ext.refl _)))
  have HBc := hid (show Blk U w.heap.size [.int .i8 a0, .int .i8 a1, .int .i8 a2, .int .i8 a3, .int .i8 a4, .int .i8 a5, .int .u8 b0, .int .u8 b1, .int .u8 b2, .int .u8 b3, .int .u8 b4, .int .u8 b5, .slice sa sw.length sc, .bool o0, .bool o1, .bool o2, .int .u8 s0, .int .u8 s1, .int .u8 s2, .int .i8 w0, .int .i8 w1, .int .i8 w2, .int .i8 w3, .int .i8 w4, .int .i8 w5, .slice aa la.length ac, .slice na ln.length nc] by rw [← hU]; (show Blk _ _ _; repeat (first | with_reducible (refine Hid.out ?_; assumption) | with_reducible refine Blk.drew ?_ | with_reducible refine Blk.ext ?_ _ | (with_reducible refine Blk.new _ _ rfl ?_; first | with_reducible rfl | (simp; done)) | with_reducible refine Blk.alloc ?_ _ | with_reducible assumption | with_reducible apply Blk.setE | (with_reducible refine Blk.other' ?_ ?_; first | omega | (simp; omega)) | (show List.set _ _ _ = _; exact rfl) | (show _ < List.length _; simp; done))))
  have HBl := hid (show Blk U (w.heap.size + 1 + r1.new.size + r2.new.size + r3.new.size) [.int .i64 3, .int .i64 8, .int .i64 1] by rw [← hU]; (show Blk _ _ _; repeat (first | with_reducible (refine Hid.out ?_; assumption) | with_reducible refine Blk.drew ?_ | with_reducible refine Blk.ext ?_ _ | (with_reducible refine Blk.new _ _ rfl ?_; first | with_reducible rfl | (simp; done)) | with_reducible refine Blk.alloc ?_ _ | with_reducible assumption | with_reducible apply Blk.setE | (with_reducible refine Blk.other' ?_ ?_; first | omega | (simp; omega)) | (show List.set _ _ _ = _; exact rfl) | (show _ < List.length _; simp; done))))
  have HLU := hid (show Ws U w.heap.size (.slice (some ⟨g, 0, none⟩) 416 c4) M0 from by
    have h := Own.mono hv4 (show w.heap.size ≤ _ by simp; omega)
    rw [← hU]
    exact Ws.of h (by (show Ext _ _; repeat (first | with_reducible (refine Hid.out ?_; assumption) | with_reducible exact Ext.refl _ | with_reducible refine Ext.ext ?_ _ | with_reducible refine Ext.alloc ?_ _ | refine Ext.drew ?_ | refine Ext.drewN ?_ _ | exact Ext.refl _))))
  have hgn : w.heap.size < g := by simp at hgl; omega
  have hgl2 : g < w.heap.size + 1 + r1.new.size + r2.new.size + r3.new.size := by simp at hgs; omega
  have hgU : g < U.heap.size := by rw [← hU]; simp at hgs ⊢; omega
  generalize hnl : w.heap.size + 1 + r1.new.size + r2.new.size + r3.new.size = nl at *
  have hn0 : w.heap.size ≠ g := by omega
  have hn1 : nl ≠ g := by omega
  clear hU hv4 hgl hgs hnl hgl2
  go_loopw [7] (fun i wr => ∃ (j : Nat) (M : List Wd), j ≤ 3 ∧ i = .int .i64 (j + 1 : Nat) ∧ Hid (Im M) ∧ Hid (Ws wr w.heap.size (.slice (some ⟨g, 0, none⟩) 416 c4) M) ∧ Hid (Grn g U wr)) (fun i _ => 4 - (intOf i).toNat)
  case atStart => exact ⟨0, _, by omega, rfl, HI0, HLU, hid Grn.refl⟩
  case round =>
  clear HI0 HLU
  obtain ⟨j, M, hj, rfl, HI, HL, HG⟩ := hrel
  have hUs := HEU.out.size
  have HEw := hid (HEU.out.grn HG.out (by omega))
  have HBcw := hid (HBc.out.grn HG.out hn0)
  have HBlw := hid (HBl.out.grn HG.out hn1)
  have hgw : g < wr.heap.size := Nat.lt_of_lt_of_le hgU HG.out.size
  obtain ⟨l0, l1, l2⟩ := HBlw.out.three
  have l4 := HBlw.out.1
  have c13 := HBcw.out.1
  by_cases hj3 : j < 3
  · have hjj : ((j + 1 : Nat) : Int) ≤ 3 := by omega
    obtain ⟨o, ho⟩ : ∃ u, [o0, o1, o2][j]? = some u := ⟨_, List.getElem?_eq_getElem (by show j < 3; exact hj3)⟩
    obtain ⟨s, hs⟩ : ∃ u, [s0, s1, s2][j]? = some u := ⟨_, List.getElem?_eq_getElem (by show j < 3; exact hj3)⟩
    obtain ⟨u, hu⟩ : ∃ u, [w0, w1, w2, w3, w4, w5][j]? = some u := ⟨_, List.getElem?_eq_getElem (by show j < 6; omega)⟩
    obtain ⟨v, hv⟩ : ∃ u, [w0, w1, w2, w3, w4, w5][j + 3]? = some u := ⟨_, List.getElem?_eq_getElem (by show j + 3 < 6; omega)⟩
    have hsb := HSt.out s (List.mem_of_getElem? hs)
    have hub := HOw.out u (List.mem_of_getElem? hu)
    have hvb := HOw.out v (List.mem_of_getElem? hv)
    have q0 : wr.cell? ⟨w.heap.size, 13 + j, none⟩ = some (.bool o) := HBcw.out.2.2 (13 + j) _ (by
      match j, hj3, ho with
      | 0, _, h => cases h; rfl
      | 1, _, h => cases h; rfl
      | 2, _, h => cases h; rfl)
    have q1 : wr.cell? ⟨w.heap.size, 16 + j, none⟩ = some (.int .u8 s) := HBcw.out.2.2 (16 + j) _ (by
      match j, hj3, hs with
      | 0, _, h => cases h; rfl
      | 1, _, h => cases h; rfl
      | 2, _, h => cases h; rfl)
    have q2 : wr.cell? ⟨w.heap.size, 19 + j, none⟩ = some (.int .i8 u) := HBcw.out.2.2 (19 + j) _ (by
      match j, hj3, hu with
      | 0, _, h => cases h; rfl
      | 1, _, h => cases h; rfl
      | 2, _, h => cases h; rfl)
    have q3 : wr.cell? ⟨w.heap.size, 19 + (j + 3), none⟩ = some (.int .i8 v) := HBcw.out.2.2 (19 + (j + 3)) _ (by
      match j, hj3, hv with
      | 0, _, h => cases h; rfl
      | 1, _, h => cases h; rfl
      | 2, _, h => cases h; rfl)
    have HQ1 := hid q1
    have HQ2 := hid q2
    have HQ3 := hid q3
    clear ho hs hu hv
    have HAn := hid (ann31 j hj3)
    have HSj := hid (slot31 j hj3)
    have hw0 : IntKind.i64.wrap ((j : Int)) = (j : Int) := IntWalk.i64_in _ (by omega)
    have hw2 : IntKind.i64.wrap ((j : Int) + 3) = (j : Int) + 3 := IntWalk.i64_in _ (by omega)
    have hw3 : IntKind.i64.wrap ((j : Int) + 1 + 2) = (j : Int) + 3 := by rw [show (j : Int) + 1 + 2 = (j : Int) + 3 by omega]; exact hw2
    have t8 : (0 : Int) ≤ (j : Int) + 3 := by omega
    have t9 : ((j : Int) + 3).toNat = j + 3 := by omega
    have t10 : (j : Int) + 3 < 6 := by omega
    have t11 : (j : Int) < 6 := by omega
    have t12 : (j : Int) < 3 := by omega
    go_upto_if 42 with fail
    go_cut [] (fun wy => ∃ M' : List Wd, Im M' ∧ Ws wy w.heap.size (.slice (some ⟨g, 0, none⟩) 416 c4) M' ∧ Grn g wr wy)
    case first =>
      cases o
      · go_wp2_with fail
        go_meet
        exact ⟨M, HI.out, HL.out, Grn.refl⟩
      · obtain ⟨p, hp⟩ : ∃ p, p = 64 + j * 104 := ⟨_, rfl⟩
        have HPs := hid (show atN 3 8 1 4 (wrap64 ((j : Int) + 1 - 1)) 0 = (p : Int) by rw [hp]; exact HSj.out)
        have hp4 : p < 416 := by omega
        obtain ⟨⟨y1, y2, y3⟩, hy⟩ : ∃ y, M[p]? = some y := ⟨_, List.getElem?_eq_getElem (by rw [HI.out.1]; exact hp4)⟩
        have HY := hid hy
        obtain ⟨m0, m1, m2⟩ := Ws.cells HL.out hy
        have f0 := Ws.free HL.out (p * 3)
        have t2 : (p : Int) < 416 := by omega
        obtain ⟨x, hx⟩ := Int.eq_ofNat_of_zero_le (Int.emod_nonneg s (show (4 : Int) ≠ 0 by omega))
        have hx4 : x < 4 := by have := Int.emod_lt_of_pos s (show (0 : Int) < 4 by omega); omega
        have htm : s.tmod 4 = (x : Int) := by rw [Int.tmod_eq_emod_of_nonneg hsb.1]; exact hx
        have hwx : IntKind.i64.wrap (x : Int) = (x : Int) := IntWalk.i64_in _ (by omega)
        clear hp hy hx
        go_upto_region 11 with fail
        refine wp_region_held_drew (S := fun w' => (w'.cell? ⟨nl, 0, none⟩ = some (.int .i64 3) ∧ w'.cell? ⟨nl, 1, none⟩ = some (.int .i64 8) ∧ w'.cell? ⟨nl, 2, none⟩ = some (.int .i64 1)) ∧ w'.cell? ⟨w.heap.size, 16 + j, none⟩ = some (.int .u8 s)) (by kernel_rfl) (by exact ⟨⟨(show Grn g wr _ from by (show Grn _ _ _; repeat (first | with_reducible exact Grn.refl | with_reducible refine Grn.setCell ?_ _ _ | with_reducible refine Grn.ext ?_ _ | with_reducible refine Grn.alloc ?_ _ | with_reducible refine Grn.drew ?_))).cell hn1 l0, (show Grn g wr _ from by (show Grn _ _ _; repeat (first | with_reducible exact Grn.refl | with_reducible refine Grn.setCell ?_ _ _ | with_reducible refine Grn.ext ?_ _ | with_reducible refine Grn.alloc ?_ _ | with_reducible refine Grn.drew ?_))).cell hn1 l1, (show Grn g wr _ from by (show Grn _ _ _; repeat (first | with_reducible exact Grn.refl | with_reducible refine Grn.setCell ?_ _ _ | with_reducible refine Grn.ext ?_ _ | with_reducible refine Grn.alloc ?_ _ | with_reducible refine Grn.drew ?_))).cell hn1 l2⟩, (show Grn g wr _ from by (show Grn _ _ _; repeat (first | with_reducible exact Grn.refl | with_reducible refine Grn.setCell ?_ _ _ | with_reducible refine Grn.ext ?_ _ | with_reducible refine Grn.alloc ?_ _ | with_reducible refine Grn.drew ?_))).cell hn0 q1⟩) (fun hHeld => ?_)
        refine take_met 0 (oi := ⟨_, _, _, _, _, _⟩) (v := ?_) (by kernel_rfl) rfl (by rfl) (fun _ _ _ h => h) (by assumption) ?_ ?_
        rotate_left 1
        · intro w hSw
          try dsimp only at hSw
          go_simp
          try with_reducible rfl
        (try simp only [Act.put, List.setIfInBounds_toArray, List.set_cons_zero, List.set_cons_succ])
        refine take_met 1 (oi := ⟨_, _, _, _, _, _⟩) (v := ?_) (by kernel_rfl) rfl (by rfl) (fun _ _ _ h => h) (by assumption) ?_ ?_
        rotate_left 1
        · intro w hSw
          try dsimp only at hSw
          go_simp
          try with_reducible rfl
        (try simp only [Act.put, List.setIfInBounds_toArray, List.set_cons_zero, List.set_cons_succ])
        refine take_met 2 (oi := ⟨_, _, _, _, _, _⟩) (v := ?_) (by kernel_rfl) rfl (by rfl) (fun _ _ _ h => h) (by assumption) ?_ ?_
        rotate_left 1
        · intro w hSw
          try dsimp only at hSw
          go_simp
          try with_reducible rfl
        (try simp only [Act.put, List.setIfInBounds_toArray, List.set_cons_zero, List.set_cons_succ])
        refine take_met 4 (oi := ⟨_, _, _, _, _, _⟩) (v := ?_) (by kernel_rfl) rfl (by rfl) (fun _ _ _ h => h) (by assumption) ?_ ?_
        rotate_left 1
        · intro w hSw
          try dsimp only at hSw
          go_simp
          try with_reducible rfl
        (try simp only [Act.put, List.setIfInBounds_toArray, List.set_cons_zero, List.set_cons_succ])
        refine take_met 5 (oi := ⟨_, _, _, _, _, _⟩) (v := ?_) (by kernel_rfl) rfl (by rfl) (fun _ _ _ h => h) (by assumption) ?_ ?_
        rotate_left 1
        · intro w hSw
          try dsimp only at hSw
          go_simp
          try with_reducible rfl
        (try simp only [Act.put, List.setIfInBounds_toArray, List.set_cons_zero, List.set_cons_succ])
        refine take_met 6 (oi := ⟨_, _, _, _, _, _⟩) (v := ?_) (by kernel_rfl) rfl (by rfl) (fun _ _ _ h => h) (by assumption) ?_ ?_
        rotate_left 1
        · intro w hSw
          try dsimp only at hSw
          go_simp
          try with_reducible rfl
        (try simp only [Act.put, List.setIfInBounds_toArray, List.set_cons_zero, List.set_cons_succ])
        refine take_met 7 (oi := ⟨_, _, _, _, _, _⟩) (v := ?_) (by kernel_rfl) rfl (by rfl) (fun _ _ _ h => h) (by assumption) ?_ ?_
        rotate_left 1
        · intro w hSw
          try dsimp only at hSw
          go_simp
          try with_reducible rfl
        (try simp only [Act.put, List.setIfInBounds_toArray, List.set_cons_zero, List.set_cons_succ])
        refine take_met 8 (oi := ⟨_, _, _, _, _, _⟩) (v := ?_) (by kernel_rfl) rfl (by rfl) (fun _ _ _ h => h) (by assumption) ?_ ?_
        rotate_left 1
        · intro w hSw
          try dsimp only at hSw
          go_simp
          try with_reducible rfl
        (try simp only [Act.put, List.setIfInBounds_toArray, List.set_cons_zero, List.set_cons_succ])
        refine take_met 9 (oi := ⟨_, _, _, _, _, _⟩) (v := ?_) (by kernel_rfl) rfl (by rfl) (fun _ _ _ h => h) (by assumption) ?_ ?_
        rotate_left 1
        · intro w hSw
          try dsimp only at hSw
          go_simp
          try with_reducible rfl
        (try simp only [Act.put, List.setIfInBounds_toArray, List.set_cons_zero, List.set_cons_succ])
        refine take_met 10 (oi := ⟨_, _, _, _, _, _⟩) (v := ?_) (by kernel_rfl) rfl (by rfl) (fun _ _ _ h => h) (by assumption) ?_ ?_
        rotate_left 1
        · intro w hSw
          try dsimp only at hSw
          go_simp
          try with_reducible rfl
        (try simp only [Act.put, List.setIfInBounds_toArray, List.set_cons_zero, List.set_cons_succ])
        refine take_only 3 (oi := ⟨_, _, _, _, _, _⟩) (by kernel_rfl) rfl (fun K hK => ?_)
        go_simp
        first
          | (go_at_call 17; refine (slot_any 3 8 1 ((j : Int) + 1) _ (HS.out.of (HEw.out.trans (by (show Ext _ _; repeat (first | with_reducible (refine Hid.out ?_; assumption) | with_reducible exact Ext.refl _ | with_reducible refine Ext.ext ?_ _ | with_reducible refine Ext.alloc ?_ _ | refine Ext.drew ?_ | refine Ext.drewN ?_ _ | exact Ext.refl _)))))).mono ?_; rintro e w' ⟨rfl, r9, rfl⟩; rw [HPs.out])
        have hOld := hHeld
        clear hHeld
        refine hK.out _ _ (by exact ⟨⟨(show Grn g wr _ from by (show Grn _ _ _; repeat (first | with_reducible exact Grn.refl | with_reducible refine Grn.setCell ?_ _ _ | with_reducible refine Grn.ext ?_ _ | with_reducible refine Grn.alloc ?_ _ | with_reducible refine Grn.drew ?_))).cell hn1 l0, (show Grn g wr _ from by (show Grn _ _ _; repeat (first | with_reducible exact Grn.refl | with_reducible refine Grn.setCell ?_ _ _ | with_reducible refine Grn.ext ?_ _ | with_reducible refine Grn.alloc ?_ _ | with_reducible refine Grn.drew ?_))).cell hn1 l1, (show Grn g wr _ from by (show Grn _ _ _; repeat (first | with_reducible exact Grn.refl | with_reducible refine Grn.setCell ?_ _ _ | with_reducible refine Grn.ext ?_ _ | with_reducible refine Grn.alloc ?_ _ | with_reducible refine Grn.drew ?_))).cell hn1 l2⟩, (show Grn g wr _ from by (show Grn _ _ _; repeat (first | with_reducible exact Grn.refl | with_reducible refine Grn.setCell ?_ _ _ | with_reducible refine Grn.ext ?_ _ | with_reducible refine Grn.alloc ?_ _ | with_reducible refine Grn.drew ?_))).cell hn0 q1⟩) (fun hHeld => ?_)
        clear hOld hK K
        (try simp only [Act.put, List.setIfInBounds_toArray, List.set_cons_zero, List.set_cons_succ])
        refine take_met 11 (oi := ⟨_, _, _, _, _, _⟩) (v := ?_) (by kernel_rfl) rfl (by rfl) (fun _ _ _ h => h) (by assumption) ?_ ?_
        rotate_left 1
        · intro w hSw
          try dsimp only at hSw
          go_simp
          try with_reducible rfl
        (try simp only [Act.put, List.setIfInBounds_toArray, List.set_cons_zero, List.set_cons_succ])
        refine take_met 12 (oi := ⟨_, _, _, _, _, _⟩) (v := ?_) (by kernel_rfl) rfl (by rfl) (fun _ _ _ h => h) (by assumption) ?_ ?_
        rotate_left 1
        · intro w hSw
          try dsimp only at hSw
          go_simp
          try with_reducible rfl
        (try simp only [Act.put, List.setIfInBounds_toArray, List.set_cons_zero, List.set_cons_succ])
        refine take_only 13 (oi := ⟨_, _, _, _, _, _⟩) (by kernel_rfl) rfl (fun K hK => ?_)
        go_simp
        have hOld := hHeld
        clear hHeld
        refine hK.out _ _ (by exact ⟨⟨(show Grn g wr _ from by (show Grn _ _ _; repeat (first | with_reducible exact Grn.refl | with_reducible refine Grn.setCell ?_ _ _ | with_reducible refine Grn.ext ?_ _ | with_reducible refine Grn.alloc ?_ _ | with_reducible refine Grn.drew ?_))).cell hn1 l0, (show Grn g wr _ from by (show Grn _ _ _; repeat (first | with_reducible exact Grn.refl | with_reducible refine Grn.setCell ?_ _ _ | with_reducible refine Grn.ext ?_ _ | with_reducible refine Grn.alloc ?_ _ | with_reducible refine Grn.drew ?_))).cell hn1 l1, (show Grn g wr _ from by (show Grn _ _ _; repeat (first | with_reducible exact Grn.refl | with_reducible refine Grn.setCell ?_ _ _ | with_reducible refine Grn.ext ?_ _ | with_reducible refine Grn.alloc ?_ _ | with_reducible refine Grn.drew ?_))).cell hn1 l2⟩, (show Grn g wr _ from by (show Grn _ _ _; repeat (first | with_reducible exact Grn.refl | with_reducible refine Grn.setCell ?_ _ _ | with_reducible refine Grn.ext ?_ _ | with_reducible refine Grn.alloc ?_ _ | with_reducible refine Grn.drew ?_))).cell hn0 q1⟩) (fun hHeld => ?_)
        clear hOld hK K
        (try simp only [Act.put, List.setIfInBounds_toArray, List.set_cons_zero, List.set_cons_succ])
        refine wpAnyH_done (by kernel_rfl) ?_ _
        go_wp2_with fail
        go_meet
        exact ⟨M.set p (x, y2, y3), HI.out.set _ ⟨⟨by dsimp only; omega, by dsimp only; omega⟩, (HI.out.2 _ (List.mem_of_getElem? HY.out)).2⟩, Ws.val (HL.out.of (by (show Ext _ _; repeat (first | with_reducible (refine Hid.out ?_; assumption) | with_reducible exact Ext.refl _ | with_reducible refine Ext.ext ?_ _ | with_reducible refine Ext.alloc ?_ _ | refine Ext.drew ?_ | refine Ext.drewN ?_ _ | exact Ext.refl _)))) HY.out x, (Grn.of_ext (by (show Ext _ _; repeat (first | with_reducible (refine Hid.out ?_; assumption) | with_reducible exact Ext.refl _ | with_reducible refine Ext.ext ?_ _ | with_reducible refine Ext.alloc ?_ _ | refine Ext.drew ?_ | refine Ext.drewN ?_ _ | exact Ext.refl _)))).setCell _ _⟩
    case rest =>
    obtain ⟨M1, hI1, hL1, hG1⟩ := hcut
    obtain ⟨W1, rfl⟩ : ∃ W : World, W = wc := ⟨_, rfl⟩
    have HI1 := hid hI1
    have HL1 := hid hL1
    have HG1 := hid (HG.out.trans hG1)
    have HEw1 := hid (HEU.out.grn HG1.out (by omega))
    have HBl1 := hid (HBl.out.grn HG1.out hn1)
    have q22 := hG1.cell hn0 HQ2.out
    have q33 := hG1.cell hn0 HQ3.out
    have hnW : w.heap.size < W1.heap.size := Nat.lt_of_lt_of_le c13 hG1.size
    have hgW : g < W1.heap.size := Nat.lt_of_lt_of_le hgw hG1.size
    have HQ33 := hid q33
    clear hI1 hL1 hG1 l0 l1 l2 l4 q0 q1 q2 q3 HI HL HG HEw HBcw HBlw hgw c13
    obtain ⟨l0, l1, l2⟩ := HBl1.out.three
    have l4 := HBl1.out.1
    obtain ⟨p, hp⟩ : ∃ p, p = 8 + j * 8 := ⟨_, rfl⟩
    have HPa := hid (show atN 3 8 1 1 (wrap64 ((j : Int) + 1 - 1)) 0 = (p : Int) by rw [hp]; exact HAn.out.1)
    have HPh := hid (show atN 3 8 1 1 (wrap64 ((j : Int) + 1 - 1)) 1 = ((p + 1 : Nat) : Int) by rw [hp, show 8 + j * 8 + 1 = 9 + j * 8 by omega]; exact HAn.out.2)
    have hp4 : p + 1 < 416 := by omega
    have hwu : IntKind.i64.wrap u = u := IntWalk.i64_in _ (by omega)
    have hwv : IntKind.i64.wrap v = v := IntWalk.i64_in _ (by omega)
    clear hp
    go_upto_region 12 with fail
    go_cut [] (fun wy => ∃ M' : List Wd, Im M' ∧ Ws wy w.heap.size (.slice (some ⟨g, 0, none⟩) 416 c4) M' ∧ Grn g W1 wy)
    case first =>
      obtain ⟨⟨y1, y2, y3⟩, hy⟩ : ∃ y, M1[p]? = some y := ⟨_, List.getElem?_eq_getElem (by rw [HI1.out.1]; omega)⟩
      have HY := hid hy
      obtain ⟨m0, m1, m2⟩ := Ws.cells HL1.out hy
      have f0 := Ws.free HL1.out (p * 3)
      have t2 : (p : Int) < 416 := by omega
      clear hy
      refine wp_region_held_drew (S := fun w' => (w'.cell? ⟨nl, 0, none⟩ = some (.int .i64 3) ∧ w'.cell? ⟨nl, 1, none⟩ = some (.int .i64 8) ∧ w'.cell? ⟨nl, 2, none⟩ = some (.int .i64 1)) ∧ w'.cell? ⟨w.heap.size, 19 + j, none⟩ = some (.int .i8 u)) (by kernel_rfl) (by exact ⟨⟨(show Grn g W1 _ from by (show Grn _ _ _; repeat (first | with_reducible exact Grn.refl | with_reducible refine Grn.setCell ?_ _ _ | with_reducible refine Grn.ext ?_ _ | with_reducible refine Grn.alloc ?_ _ | with_reducible refine Grn.drew ?_))).cell hn1 l0, (show Grn g W1 _ from by (show Grn _ _ _; repeat (first | with_reducible exact Grn.refl | with_reducible refine Grn.setCell ?_ _ _ | with_reducible refine Grn.ext ?_ _ | with_reducible refine Grn.alloc ?_ _ | with_reducible refine Grn.drew ?_))).cell hn1 l1, (show Grn g W1 _ from by (show Grn _ _ _; repeat (first | with_reducible exact Grn.refl | with_reducible refine Grn.setCell ?_ _ _ | with_reducible refine Grn.ext ?_ _ | with_reducible refine Grn.alloc ?_ _ | with_reducible refine Grn.drew ?_))).cell hn1 l2⟩, (show Grn g W1 _ from by (show Grn _ _ _; repeat (first | with_reducible exact Grn.refl | with_reducible refine Grn.setCell ?_ _ _ | with_reducible refine Grn.ext ?_ _ | with_reducible refine Grn.alloc ?_ _ | with_reducible refine Grn.drew ?_))).cell hn0 q22⟩) (fun hHeld => ?_)
      refine take_met 0 (oi := ⟨_, _, _, _, _, _⟩) (v := ?_) (by kernel_rfl) rfl (by rfl) (fun _ _ _ h => h) (by assumption) ?_ ?_
      rotate_left 1
      · intro w hSw
        try dsimp only at hSw
        go_simp
        try with_reducible rfl
      (try simp only [Act.put, List.setIfInBounds_toArray, List.set_cons_zero, List.set_cons_succ])
      refine take_met 1 (oi := ⟨_, _, _, _, _, _⟩) (v := ?_) (by kernel_rfl) rfl (by rfl) (fun _ _ _ h => h) (by assumption) ?_ ?_
      rotate_left 1
      · intro w hSw
        try dsimp only at hSw
        go_simp
        try with_reducible rfl
      (try simp only [Act.put, List.setIfInBounds_toArray, List.set_cons_zero, List.set_cons_succ])
      refine take_met 2 (oi := ⟨_, _, _, _, _, _⟩) (v := ?_) (by kernel_rfl) rfl (by rfl) (fun _ _ _ h => h) (by assumption) ?_ ?_
      rotate_left 1
      · intro w hSw
        try dsimp only at hSw
        go_simp
        try with_reducible rfl
      (try simp only [Act.put, List.setIfInBounds_toArray, List.set_cons_zero, List.set_cons_succ])
      refine take_met 4 (oi := ⟨_, _, _, _, _, _⟩) (v := ?_) (by kernel_rfl) rfl (by rfl) (fun _ _ _ h => h) (by assumption) ?_ ?_
      rotate_left 1
      · intro w hSw
        try dsimp only at hSw
        go_simp
        try with_reducible rfl
      (try simp only [Act.put, List.setIfInBounds_toArray, List.set_cons_zero, List.set_cons_succ])
      refine take_met 5 (oi := ⟨_, _, _, _, _, _⟩) (v := ?_) (by kernel_rfl) rfl (by rfl) (fun _ _ _ h => h) (by assumption) ?_ ?_
      rotate_left 1
      · intro w hSw
        try dsimp only at hSw
        go_simp
        try with_reducible rfl
      (try simp only [Act.put, List.setIfInBounds_toArray, List.set_cons_zero, List.set_cons_succ])
      refine take_met 6 (oi := ⟨_, _, _, _, _, _⟩) (v := ?_) (by kernel_rfl) rfl (by rfl) (fun _ _ _ h => h) (by assumption) ?_ ?_
      rotate_left 1
      · intro w hSw
        try dsimp only at hSw
        go_simp
        try with_reducible rfl
      (try simp only [Act.put, List.setIfInBounds_toArray, List.set_cons_zero, List.set_cons_succ])
      refine take_met 7 (oi := ⟨_, _, _, _, _, _⟩) (v := ?_) (by kernel_rfl) rfl (by rfl) (fun _ _ _ h => h) (by assumption) ?_ ?_
      rotate_left 1
      · intro w hSw
        try dsimp only at hSw
        go_simp
        try with_reducible rfl
      (try simp only [Act.put, List.setIfInBounds_toArray, List.set_cons_zero, List.set_cons_succ])
      refine take_met 8 (oi := ⟨_, _, _, _, _, _⟩) (v := ?_) (by kernel_rfl) rfl (by rfl) (fun _ _ _ h => h) (by assumption) ?_ ?_
      rotate_left 1
      · intro w hSw
        try dsimp only at hSw
        go_simp
        try with_reducible rfl
      (try simp only [Act.put, List.setIfInBounds_toArray, List.set_cons_zero, List.set_cons_succ])
      refine take_met 9 (oi := ⟨_, _, _, _, _, _⟩) (v := ?_) (by kernel_rfl) rfl (by rfl) (fun _ _ _ h => h) (by assumption) ?_ ?_
      rotate_left 1
      · intro w hSw
        try dsimp only at hSw
        go_simp
        try with_reducible rfl
      (try simp only [Act.put, List.setIfInBounds_toArray, List.set_cons_zero, List.set_cons_succ])
      refine take_only 3 (oi := ⟨_, _, _, _, _, _⟩) (by kernel_rfl) rfl (fun K hK => ?_)
      go_simp
      first
        | (go_at_call 28; refine (announce_any 3 8 1 ((j : Int) + 1) _ (HS.out.of (HEw1.out.trans (by (show Ext _ _; repeat (first | with_reducible (refine Hid.out ?_; assumption) | with_reducible exact Ext.refl _ | with_reducible refine Ext.ext ?_ _ | with_reducible refine Ext.alloc ?_ _ | refine Ext.drew ?_ | refine Ext.drewN ?_ _ | exact Ext.refl _)))))).mono ?_; rintro e w' ⟨rfl, r9, rfl⟩; rw [HPa.out])
      have hOld := hHeld
      clear hHeld
      refine hK.out _ _ (by exact ⟨⟨(show Grn g W1 _ from by (show Grn _ _ _; repeat (first | with_reducible exact Grn.refl | with_reducible refine Grn.setCell ?_ _ _ | with_reducible refine Grn.ext ?_ _ | with_reducible refine Grn.alloc ?_ _ | with_reducible refine Grn.drew ?_))).cell hn1 l0, (show Grn g W1 _ from by (show Grn _ _ _; repeat (first | with_reducible exact Grn.refl | with_reducible refine Grn.setCell ?_ _ _ | with_reducible refine Grn.ext ?_ _ | with_reducible refine Grn.alloc ?_ _ | with_reducible refine Grn.drew ?_))).cell hn1 l1, (show Grn g W1 _ from by (show Grn _ _ _; repeat (first | with_reducible exact Grn.refl | with_reducible refine Grn.setCell ?_ _ _ | with_reducible refine Grn.ext ?_ _ | with_reducible refine Grn.alloc ?_ _ | with_reducible refine Grn.drew ?_))).cell hn1 l2⟩, (show Grn g W1 _ from by (show Grn _ _ _; repeat (first | with_reducible exact Grn.refl | with_reducible refine Grn.setCell ?_ _ _ | with_reducible refine Grn.ext ?_ _ | with_reducible refine Grn.alloc ?_ _ | with_reducible refine Grn.drew ?_))).cell hn0 q22⟩) (fun hHeld => ?_)
      clear hOld hK K
      (try simp only [Act.put, List.setIfInBounds_toArray, List.set_cons_zero, List.set_cons_succ])
      refine take_met 10 (oi := ⟨_, _, _, _, _, _⟩) (v := ?_) (by kernel_rfl) rfl (by rfl) (fun _ _ _ h => h) (by assumption) ?_ ?_
      rotate_left 1
      · intro w hSw
        try dsimp only at hSw
        go_simp
        try with_reducible rfl
      (try simp only [Act.put, List.setIfInBounds_toArray, List.set_cons_zero, List.set_cons_succ])
      refine take_met 11 (oi := ⟨_, _, _, _, _, _⟩) (v := ?_) (by kernel_rfl) rfl (by rfl) (fun _ _ _ h => h) (by assumption) ?_ ?_
      rotate_left 1
      · intro w hSw
        try dsimp only at hSw
        go_simp
        try with_reducible rfl
      (try simp only [Act.put, List.setIfInBounds_toArray, List.set_cons_zero, List.set_cons_succ])
      refine take_only 12 (oi := ⟨_, _, _, _, _, _⟩) (by kernel_rfl) rfl (fun K hK => ?_)
      go_simp
      have hOld := hHeld
      clear hHeld
      refine hK.out _ _ (by exact ⟨⟨(show Grn g W1 _ from by (show Grn _ _ _; repeat (first | with_reducible exact Grn.refl | with_reducible refine Grn.setCell ?_ _ _ | with_reducible refine Grn.ext ?_ _ | with_reducible refine Grn.alloc ?_ _ | with_reducible refine Grn.drew ?_))).cell hn1 l0, (show Grn g W1 _ from by (show Grn _ _ _; repeat (first | with_reducible exact Grn.refl | with_reducible refine Grn.setCell ?_ _ _ | with_reducible refine Grn.ext ?_ _ | with_reducible refine Grn.alloc ?_ _ | with_reducible refine Grn.drew ?_))).cell hn1 l1, (show Grn g W1 _ from by (show Grn _ _ _; repeat (first | with_reducible exact Grn.refl | with_reducible refine Grn.setCell ?_ _ _ | with_reducible refine Grn.ext ?_ _ | with_reducible refine Grn.alloc ?_ _ | with_reducible refine Grn.drew ?_))).cell hn1 l2⟩, (show Grn g W1 _ from by (show Grn _ _ _; repeat (first | with_reducible exact Grn.refl | with_reducible refine Grn.setCell ?_ _ _ | with_reducible refine Grn.ext ?_ _ | with_reducible refine Grn.alloc ?_ _ | with_reducible refine Grn.drew ?_))).cell hn0 q22⟩) (fun hHeld => ?_)
      clear hOld hK K
      (try simp only [Act.put, List.setIfInBounds_toArray, List.set_cons_zero, List.set_cons_succ])
      refine wpAnyH_done (by kernel_rfl) ?_ _
      go_wp2_with fail
      go_meet
      exact ⟨M1.set p (u, y2, y3), HI1.out.set _ ⟨⟨by dsimp only; omega, by dsimp only; omega⟩, (HI1.out.2 _ (List.mem_of_getElem? HY.out)).2⟩, Ws.val (HL1.out.of (by (show Ext _ _; repeat (first | with_reducible (refine Hid.out ?_; assumption) | with_reducible exact Ext.refl _ | with_reducible refine Ext.ext ?_ _ | with_reducible refine Ext.alloc ?_ _ | refine Ext.drew ?_ | refine Ext.drewN ?_ _ | exact Ext.refl _)))) HY.out u, (Grn.of_ext (by (show Ext _ _; repeat (first | with_reducible (refine Hid.out ?_; assumption) | with_reducible exact Ext.refl _ | with_reducible refine Ext.ext ?_ _ | with_reducible refine Ext.alloc ?_ _ | refine Ext.drew ?_ | refine Ext.drewN ?_ _ | exact Ext.refl _)))).setCell _ _⟩
    case rest =>
    obtain ⟨M2, hI2, hL2, hG2⟩ := hcut
    obtain ⟨W2, rfl⟩ : ∃ W : World, W = wc := ⟨_, rfl⟩
    have HI2 := hid hI2
    have HL2 := hid hL2
    have HG2 := hid (HG1.out.trans hG2)
    have HEw2 := hid (HEU.out.grn HG2.out (by omega))
    have HBl2 := hid (HBl.out.grn HG2.out hn1)
    have q34 := hG2.cell hn0 HQ33.out
    have hnW2 : w.heap.size < W2.heap.size := Nat.lt_of_lt_of_le hnW hG2.size
    have hgW2 : g < W2.heap.size := Nat.lt_of_lt_of_le hgW hG2.size
    clear hI2 hL2 hG2 l0 l1 l2 l4 q22 q33 HI1 HL1 HG1 HEw1 HBl1
    obtain ⟨l0, l1, l2⟩ := HBl2.out.three
    have l4 := HBl2.out.1
    obtain ⟨⟨y1, y2, y3⟩, hy⟩ : ∃ y, M2[p + 1]? = some y := ⟨_, List.getElem?_eq_getElem (by rw [HI2.out.1]; exact hp4)⟩
    have HY := hid hy
    obtain ⟨m0, m1, m2⟩ := Ws.cells HL2.out hy
    have f0 := Ws.free HL2.out ((p + 1) * 3)
    have t2 : (p : Int) + 1 < 416 := by omega
    have t4 : ((p : Int) + 1).toNat = p + 1 := by omega
    have t5 : (0 : Int) ≤ (p : Int) + 1 := by omega
    clear hy
    go_upto_region 13 with fail
    refine wp_region_held_drew (S := fun w' => (w'.cell? ⟨nl, 0, none⟩ = some (.int .i64 3) ∧ w'.cell? ⟨nl, 1, none⟩ = some (.int .i64 8) ∧ w'.cell? ⟨nl, 2, none⟩ = some (.int .i64 1)) ∧ w'.cell? ⟨w.heap.size, 19 + (j + 3), none⟩ = some (.int .i8 v)) (by kernel_rfl) (by exact ⟨⟨(show Grn g W2 _ from by (show Grn _ _ _; repeat (first | with_reducible exact Grn.refl | with_reducible refine Grn.setCell ?_ _ _ | with_reducible refine Grn.ext ?_ _ | with_reducible refine Grn.alloc ?_ _ | with_reducible refine Grn.drew ?_))).cell hn1 l0, (show Grn g W2 _ from by (show Grn _ _ _; repeat (first | with_reducible exact Grn.refl | with_reducible refine Grn.setCell ?_ _ _ | with_reducible refine Grn.ext ?_ _ | with_reducible refine Grn.alloc ?_ _ | with_reducible refine Grn.drew ?_))).cell hn1 l1, (show Grn g W2 _ from by (show Grn _ _ _; repeat (first | with_reducible exact Grn.refl | with_reducible refine Grn.setCell ?_ _ _ | with_reducible refine Grn.ext ?_ _ | with_reducible refine Grn.alloc ?_ _ | with_reducible refine Grn.drew ?_))).cell hn1 l2⟩, (show Grn g W2 _ from by (show Grn _ _ _; repeat (first | with_reducible exact Grn.refl | with_reducible refine Grn.setCell ?_ _ _ | with_reducible refine Grn.ext ?_ _ | with_reducible refine Grn.alloc ?_ _ | with_reducible refine Grn.drew ?_))).cell hn0 q34⟩) (fun hHeld => ?_)
    refine take_met 0 (oi := ⟨_, _, _, _, _, _⟩) (v := ?_) (by kernel_rfl) rfl (by rfl) (fun _ _ _ h => h) (by assumption) ?_ ?_
    rotate_left 1
    · intro w hSw
      try dsimp only at hSw
      go_simp
      try with_reducible rfl
    (try simp only [Act.put, List.setIfInBounds_toArray, List.set_cons_zero, List.set_cons_succ])
    refine take_met 1 (oi := ⟨_, _, _, _, _, _⟩) (v := ?_) (by kernel_rfl) rfl (by rfl) (fun _ _ _ h => h) (by assumption) ?_ ?_
    rotate_left 1
    · intro w hSw
      try dsimp only at hSw
      go_simp
      try with_reducible rfl
    (try simp only [Act.put, List.setIfInBounds_toArray, List.set_cons_zero, List.set_cons_succ])
    refine take_met 2 (oi := ⟨_, _, _, _, _, _⟩) (v := ?_) (by kernel_rfl) rfl (by rfl) (fun _ _ _ h => h) (by assumption) ?_ ?_
    rotate_left 1
    · intro w hSw
      try dsimp only at hSw
      go_simp
      try with_reducible rfl
    (try simp only [Act.put, List.setIfInBounds_toArray, List.set_cons_zero, List.set_cons_succ])
    refine take_met 4 (oi := ⟨_, _, _, _, _, _⟩) (v := ?_) (by kernel_rfl) rfl (by rfl) (fun _ _ _ h => h) (by assumption) ?_ ?_
    rotate_left 1
    · intro w hSw
      try dsimp only at hSw
      go_simp
      try with_reducible rfl
    (try simp only [Act.put, List.setIfInBounds_toArray, List.set_cons_zero, List.set_cons_succ])
    refine take_met 5 (oi := ⟨_, _, _, _, _, _⟩) (v := ?_) (by kernel_rfl) rfl (by rfl) (fun _ _ _ h => h) (by assumption) ?_ ?_
    rotate_left 1
    · intro w hSw
      try dsimp only at hSw
      go_simp
      try with_reducible rfl
    (try simp only [Act.put, List.setIfInBounds_toArray, List.set_cons_zero, List.set_cons_succ])
    refine take_met 6 (oi := ⟨_, _, _, _, _, _⟩) (v := ?_) (by kernel_rfl) rfl (by rfl) (fun _ _ _ h => h) (by assumption) ?_ ?_
    rotate_left 1
    · intro w hSw
      try dsimp only at hSw
      go_simp
      try with_reducible rfl
    (try simp only [Act.put, List.setIfInBounds_toArray, List.set_cons_zero, List.set_cons_succ])
    refine take_met 7 (oi := ⟨_, _, _, _, _, _⟩) (v := ?_) (by kernel_rfl) rfl (by rfl) (fun _ _ _ h => h) (by assumption) ?_ ?_
    rotate_left 1
    · intro w hSw
      try dsimp only at hSw
      go_simp
      try with_reducible rfl
    (try simp only [Act.put, List.setIfInBounds_toArray, List.set_cons_zero, List.set_cons_succ])
    refine take_met 8 (oi := ⟨_, _, _, _, _, _⟩) (v := ?_) (by kernel_rfl) rfl (by rfl) (fun _ _ _ h => h) (by assumption) ?_ ?_
    rotate_left 1
    · intro w hSw
      try dsimp only at hSw
      go_simp
      try with_reducible rfl
    (try simp only [Act.put, List.setIfInBounds_toArray, List.set_cons_zero, List.set_cons_succ])
    refine take_met 9 (oi := ⟨_, _, _, _, _, _⟩) (v := ?_) (by kernel_rfl) rfl (by rfl) (fun _ _ _ h => h) (by assumption) ?_ ?_
    rotate_left 1
    · intro w hSw
      try dsimp only at hSw
      go_simp
      try with_reducible rfl
    (try simp only [Act.put, List.setIfInBounds_toArray, List.set_cons_zero, List.set_cons_succ])
    refine take_only 3 (oi := ⟨_, _, _, _, _, _⟩) (by kernel_rfl) rfl (fun K hK => ?_)
    go_simp
    first
      | (go_at_call 29; refine (hazard_any 3 8 1 ((j : Int) + 1) _ (HS.out.of (HEw2.out.trans (by (show Ext _ _; repeat (first | with_reducible (refine Hid.out ?_; assumption) | with_reducible exact Ext.refl _ | with_reducible refine Ext.ext ?_ _ | with_reducible refine Ext.alloc ?_ _ | refine Ext.drew ?_ | refine Ext.drewN ?_ _ | exact Ext.refl _)))))).mono ?_; rintro e w' ⟨rfl, r9, rfl⟩; rw [HPh.out])
    have hOld := hHeld
    clear hHeld
    refine hK.out _ _ (by exact ⟨⟨(show Grn g W2 _ from by (show Grn _ _ _; repeat (first | with_reducible exact Grn.refl | with_reducible refine Grn.setCell ?_ _ _ | with_reducible refine Grn.ext ?_ _ | with_reducible refine Grn.alloc ?_ _ | with_reducible refine Grn.drew ?_))).cell hn1 l0, (show Grn g W2 _ from by (show Grn _ _ _; repeat (first | with_reducible exact Grn.refl | with_reducible refine Grn.setCell ?_ _ _ | with_reducible refine Grn.ext ?_ _ | with_reducible refine Grn.alloc ?_ _ | with_reducible refine Grn.drew ?_))).cell hn1 l1, (show Grn g W2 _ from by (show Grn _ _ _; repeat (first | with_reducible exact Grn.refl | with_reducible refine Grn.setCell ?_ _ _ | with_reducible refine Grn.ext ?_ _ | with_reducible refine Grn.alloc ?_ _ | with_reducible refine Grn.drew ?_))).cell hn1 l2⟩, (show Grn g W2 _ from by (show Grn _ _ _; repeat (first | with_reducible exact Grn.refl | with_reducible refine Grn.setCell ?_ _ _ | with_reducible refine Grn.ext ?_ _ | with_reducible refine Grn.alloc ?_ _ | with_reducible refine Grn.drew ?_))).cell hn0 q34⟩) (fun hHeld => ?_)
    clear hOld hK K
    (try simp only [Act.put, List.setIfInBounds_toArray, List.set_cons_zero, List.set_cons_succ])
    refine take_met 10 (oi := ⟨_, _, _, _, _, _⟩) (v := ?_) (by kernel_rfl) rfl (by rfl) (fun _ _ _ h => h) (by assumption) ?_ ?_
    rotate_left 1
    · intro w hSw
      try dsimp only at hSw
      go_simp
      try with_reducible rfl
    (try simp only [Act.put, List.setIfInBounds_toArray, List.set_cons_zero, List.set_cons_succ])
    refine take_met 11 (oi := ⟨_, _, _, _, _, _⟩) (v := ?_) (by kernel_rfl) rfl (by rfl) (fun _ _ _ h => h) (by assumption) ?_ ?_
    rotate_left 1
    · intro w hSw
      try dsimp only at hSw
      go_simp
      try with_reducible rfl
    (try simp only [Act.put, List.setIfInBounds_toArray, List.set_cons_zero, List.set_cons_succ])
    refine take_only 12 (oi := ⟨_, _, _, _, _, _⟩) (by kernel_rfl) rfl (fun K hK => ?_)
    go_simp
    have hOld := hHeld
    clear hHeld
    refine hK.out _ _ (by exact ⟨⟨(show Grn g W2 _ from by (show Grn _ _ _; repeat (first | with_reducible exact Grn.refl | with_reducible refine Grn.setCell ?_ _ _ | with_reducible refine Grn.ext ?_ _ | with_reducible refine Grn.alloc ?_ _ | with_reducible refine Grn.drew ?_))).cell hn1 l0, (show Grn g W2 _ from by (show Grn _ _ _; repeat (first | with_reducible exact Grn.refl | with_reducible refine Grn.setCell ?_ _ _ | with_reducible refine Grn.ext ?_ _ | with_reducible refine Grn.alloc ?_ _ | with_reducible refine Grn.drew ?_))).cell hn1 l1, (show Grn g W2 _ from by (show Grn _ _ _; repeat (first | with_reducible exact Grn.refl | with_reducible refine Grn.setCell ?_ _ _ | with_reducible refine Grn.ext ?_ _ | with_reducible refine Grn.alloc ?_ _ | with_reducible refine Grn.drew ?_))).cell hn1 l2⟩, (show Grn g W2 _ from by (show Grn _ _ _; repeat (first | with_reducible exact Grn.refl | with_reducible refine Grn.setCell ?_ _ _ | with_reducible refine Grn.ext ?_ _ | with_reducible refine Grn.alloc ?_ _ | with_reducible refine Grn.drew ?_))).cell hn0 q34⟩) (fun hHeld => ?_)
    clear hOld hK K
    (try simp only [Act.put, List.setIfInBounds_toArray, List.set_cons_zero, List.set_cons_succ])
    refine wpAnyH_done (by kernel_rfl) ?_ _
    go_wp2_with fail
    go_roundw
    case rel => exact ⟨j + 1, M2.set (p + 1) (v, y2, y3), by omega, by go_num, hid (HI2.out.set _ ⟨⟨by dsimp only; omega, by dsimp only; omega⟩, (HI2.out.2 _ (List.mem_of_getElem? HY.out)).2⟩), hid (Ws.val (HL2.out.of (by (show Ext _ _; repeat (first | with_reducible (refine Hid.out ?_; assumption) | with_reducible exact Ext.refl _ | with_reducible refine Ext.ext ?_ _ | with_reducible refine Ext.alloc ?_ _ | refine Ext.drew ?_ | refine Ext.drewN ?_ _ | exact Ext.refl _)))) HY.out v), hid ((HG2.out.trans (Grn.of_ext (by (show Ext _ _; repeat (first | with_reducible (refine Hid.out ?_; assumption) | with_reducible exact Ext.refl _ | with_reducible refine Ext.ext ?_ _ | with_reducible refine Ext.alloc ?_ _ | refine Ext.drew ?_ | refine Ext.drewN ?_ _ | exact Ext.refl _))))).setCell _ _)⟩
    case measure => simp [intOf]; omega
  have hjj : ¬ ((j + 1 : Nat) : Int) ≤ 3 := by omega
  obtain rfl : j = 3 := by omega
  have HI3 := hid HI.out
  have HL3 := hid HL.out
  have HG3 := hid HG.out
  clear hj hj3 HI HL HG HEw HBcw HBlw hgw l0 l1 l2 l4 c13
  go_wp2_with fail
  go_loopw [8] (fun i wk => ∃ (j : Nat) (M : List Wd), j ≤ la.length ∧ j ≤ ln.length ∧ i = .int .i64 j ∧ Hid (Im M) ∧ Hid (Ws wk w.heap.size (.slice (some ⟨g, 0, none⟩) 416 c4) M) ∧ Hid (Grn g U wk)) (fun i _ => la.length - (intOf i).toNat)
  case atStart => exact ⟨0, _, by omega, by omega, rfl, HI3, HL3, HG3⟩
  case round =>
  clear HI3 HL3 HG3
  obtain ⟨j, M, hja, hjn, rfl, HI, HL, HG⟩ := hrel
  have HEw := hid (HEU.out.grn HG.out (by omega))
  have HBcw := hid (HBc.out.grn HG.out hn0)
  have hgw : g < wr.heap.size := Nat.lt_of_lt_of_le hgU HG.out.size
  have c12 := HBcw.out.2.2 25 _ rfl
  have c14 := HBcw.out.2.2 26 _ rfl
  have c13 := HBcw.out.1
  by_cases h3 : j < la.length
  rotate_left
  · have hda : decide (j < la.length) = false := decide_eq_false h3
    go_wp2_with fail
    go_ret2
    exact ⟨HEw.out, .inr ⟨_, M, rfl, HI.out, HL.out⟩⟩
  have hda : decide (j < la.length) = true := decide_eq_true h3
  by_cases h4 : j < ln.length
  rotate_left
  · have hdn : decide (j < ln.length) = false := decide_eq_false h4
    go_wp2_with fail
    go_ret2
    exact ⟨HEw.out, .inr ⟨_, M, rfl, HI.out, HL.out⟩⟩
  have hdn : decide (j < ln.length) = true := decide_eq_true h4
  have hjai : (j : Int) < (la.length : Int) := by omega
  have hjni : (j : Int) < (ln.length : Int) := by omega
  obtain ⟨x, hx⟩ : ∃ x, la[j]? = some x := ⟨_, List.getElem?_eq_getElem h3⟩
  obtain ⟨⟨z1, z2, z3⟩, hz⟩ : ∃ x, ln[j]? = some x := ⟨_, List.getElem?_eq_getElem h4⟩
  have hxb := HLa.out x (List.mem_of_getElem? hx)
  have HZo := hid (HLn.out _ (List.mem_of_getElem? hz))
  obtain ⟨hq1, ba, oa, hab, hba, hca⟩ := Sl.at (HAv.out.of u16E_len HEw.out) hx
  subst hab
  obtain ⟨hq2, bn, on, hab, hbn, hcn⟩ := Sl.at (HNv.out.of wdE_len HEw.out) hz
  subst hab
  clear hq1 hq2
  have k0 := hca 0 (by omega)
  simp [u16E] at k0
  have k1 := hcn 0 (by omega)
  have k2 := hcn 1 (by omega)
  have k3 := hcn 2 (by omega)
  simp [wdE] at k1 k2 k3
  have hbag : ba ≠ g := by
    obtain ⟨_, b', o', hab', hb', _⟩ := Sl.at HAv.out hx
    cases hab'
    omega
  have hbng : bn ≠ g := by
    obtain ⟨_, b', o', hab', hb', _⟩ := Sl.at HNv.out hz
    cases hab'
    omega
  obtain ⟨p, hp⟩ := Int.eq_ofNat_of_zero_le (Int.emod_nonneg x (show (416 : Int) ≠ 0 by omega))
  have hp4 : p < 416 := by have := Int.emod_lt_of_pos x (show (0 : Int) < 416 by omega); omega
  have htm : x.tmod 416 = (p : Int) := by rw [Int.tmod_eq_emod_of_nonneg hxb.1]; exact hp
  have hwx : IntKind.i64.wrap x = x := IntWalk.i64_in _ (by omega)
  have hwp : IntKind.i64.wrap (p : Int) = (p : Int) := IntWalk.i64_in _ (by omega)
  obtain ⟨⟨y1, y2, y3⟩, hy⟩ : ∃ y, M[p]? = some y := ⟨_, List.getElem?_eq_getElem (by rw [HI.out.1]; exact hp4)⟩
  obtain ⟨m0, m1, m2⟩ := Ws.cells HL.out hy
  have f0 := Ws.free HL.out (p * 3)
  have f1 := Ws.free HL.out (p * 3 + 1)
  have f2 := Ws.free HL.out (p * 3 + 2)
  have t2 : (p : Int) < 416 := by omega
  clear hx hz hca hcn hy hp
  go_upto_region 17 with fail
  refine wp_region_held_drew (S := fun w' => (w'.cell? ⟨w.heap.size, 25, none⟩ = some (.slice (some ⟨ba, oa, none⟩) la.length ac) ∧ w'.cell? ⟨w.heap.size, 26, none⟩ = some (.slice (some ⟨bn, on, none⟩) ln.length nc)) ∧ w'.cell? ⟨ba, oa + j, none⟩ = some (.int .u16 x) ∧ (w'.cell? ⟨bn, on + j * 3, none⟩ = some (.int .i64 z1) ∧ w'.cell? ⟨bn, on + j * 3 + 1, none⟩ = some (.int .u32 z2) ∧ w'.cell? ⟨bn, on + j * 3 + 2, none⟩ = some (.int .u32 z3))) (by kernel_rfl) (by exact ⟨⟨(show Grn g wr _ from by (show Grn _ _ _; repeat (first | with_reducible exact Grn.refl | with_reducible refine Grn.setCell ?_ _ _ | with_reducible refine Grn.ext ?_ _ | with_reducible refine Grn.alloc ?_ _ | with_reducible refine Grn.drew ?_))).cell hn0 c12, (show Grn g wr _ from by (show Grn _ _ _; repeat (first | with_reducible exact Grn.refl | with_reducible refine Grn.setCell ?_ _ _ | with_reducible refine Grn.ext ?_ _ | with_reducible refine Grn.alloc ?_ _ | with_reducible refine Grn.drew ?_))).cell hn0 c14⟩, (show Grn g wr _ from by (show Grn _ _ _; repeat (first | with_reducible exact Grn.refl | with_reducible refine Grn.setCell ?_ _ _ | with_reducible refine Grn.ext ?_ _ | with_reducible refine Grn.alloc ?_ _ | with_reducible refine Grn.drew ?_))).cell hbag k0, (show Grn g wr _ from by (show Grn _ _ _; repeat (first | with_reducible exact Grn.refl | with_reducible refine Grn.setCell ?_ _ _ | with_reducible refine Grn.ext ?_ _ | with_reducible refine Grn.alloc ?_ _ | with_reducible refine Grn.drew ?_))).cell hbng k1, (show Grn g wr _ from by (show Grn _ _ _; repeat (first | with_reducible exact Grn.refl | with_reducible refine Grn.setCell ?_ _ _ | with_reducible refine Grn.ext ?_ _ | with_reducible refine Grn.alloc ?_ _ | with_reducible refine Grn.drew ?_))).cell hbng k2, (show Grn g wr _ from by (show Grn _ _ _; repeat (first | with_reducible exact Grn.refl | with_reducible refine Grn.setCell ?_ _ _ | with_reducible refine Grn.ext ?_ _ | with_reducible refine Grn.alloc ?_ _ | with_reducible refine Grn.drew ?_))).cell hbng k3⟩) (fun hHeld => ?_)
  refine take_met 0 (oi := ⟨_, _, _, _, _, _⟩) (v := ?_) (by kernel_rfl) rfl (by rfl) (fun _ _ _ h => h) (by assumption) ?_ ?_
  rotate_left 1
  · intro w hSw
    try dsimp only at hSw
    go_simp
    try with_reducible rfl
  (try simp only [Act.put, List.setIfInBounds_toArray, List.set_cons_zero, List.set_cons_succ])
  refine take_met 1 (oi := ⟨_, _, _, _, _, _⟩) (v := ?_) (by kernel_rfl) rfl (by rfl) (fun _ _ _ h => h) (by assumption) ?_ ?_
  rotate_left 1
  · intro w hSw
    try dsimp only at hSw
    go_simp
    try with_reducible rfl
  (try simp only [Act.put, List.setIfInBounds_toArray, List.set_cons_zero, List.set_cons_succ])
  refine take_met 2 (oi := ⟨_, _, _, _, _, _⟩) (v := ?_) (by kernel_rfl) rfl (by rfl) (fun _ _ _ h => h) (by assumption) ?_ ?_
  rotate_left 1
  · intro w hSw
    try dsimp only at hSw
    go_simp
    try with_reducible rfl
  (try simp only [Act.put, List.setIfInBounds_toArray, List.set_cons_zero, List.set_cons_succ])
  refine take_met 3 (oi := ⟨_, _, _, _, _, _⟩) (v := ?_) (by kernel_rfl) rfl (by rfl) (fun _ _ _ h => h) (by assumption) ?_ ?_
  rotate_left 1
  · intro w hSw
    try dsimp only at hSw
    go_simp
    try with_reducible rfl
  (try simp only [Act.put, List.setIfInBounds_toArray, List.set_cons_zero, List.set_cons_succ])
  refine take_met 4 (oi := ⟨_, _, _, _, _, _⟩) (v := ?_) (by kernel_rfl) rfl (by rfl) (fun _ _ _ h => h) (by assumption) ?_ ?_
  rotate_left 1
  · intro w hSw
    try dsimp only at hSw
    go_simp
    try with_reducible rfl
  (try simp only [Act.put, List.setIfInBounds_toArray, List.set_cons_zero, List.set_cons_succ])
  refine take_met 5 (oi := ⟨_, _, _, _, _, _⟩) (v := ?_) (by kernel_rfl) rfl (by rfl) (fun _ _ _ h => h) (by assumption) ?_ ?_
  rotate_left 1
  · intro w hSw
    try dsimp only at hSw
    go_simp
    try with_reducible rfl
  (try simp only [Act.put, List.setIfInBounds_toArray, List.set_cons_zero, List.set_cons_succ])
  refine take_met 6 (oi := ⟨_, _, _, _, _, _⟩) (v := ?_) (by kernel_rfl) rfl (by rfl) (fun _ _ _ h => h) (by assumption) ?_ ?_
  rotate_left 1
  · intro w hSw
    try dsimp only at hSw
    go_simp
    try with_reducible rfl
  (try simp only [Act.put, List.setIfInBounds_toArray, List.set_cons_zero, List.set_cons_succ])
  refine take_met 7 (oi := ⟨_, _, _, _, _, _⟩) (v := ?_) (by kernel_rfl) rfl (by rfl) (fun _ _ _ h => h) (by assumption) ?_ ?_
  rotate_left 1
  · intro w hSw
    try dsimp only at hSw
    go_simp
    try with_reducible rfl
  (try simp only [Act.put, List.setIfInBounds_toArray, List.set_cons_zero, List.set_cons_succ])
  refine take_met 8 (oi := ⟨_, _, _, _, _, _⟩) (v := ?_) (by kernel_rfl) rfl (by rfl) (fun _ _ _ h => h) (by assumption) ?_ ?_
  rotate_left 1
  · intro w hSw
    try dsimp only at hSw
    go_simp
    try with_reducible rfl
  (try simp only [Act.put, List.setIfInBounds_toArray, List.set_cons_zero, List.set_cons_succ])
  refine take_met 9 (oi := ⟨_, _, _, _, _, _⟩) (v := ?_) (by kernel_rfl) rfl (by rfl) (fun _ _ _ h => h) (by assumption) ?_ ?_
  rotate_left 1
  · intro w hSw
    try dsimp only at hSw
    go_simp
    try with_reducible rfl
  (try simp only [Act.put, List.setIfInBounds_toArray, List.set_cons_zero, List.set_cons_succ])
  refine take_met 10 (oi := ⟨_, _, _, _, _, _⟩) (v := ?_) (by kernel_rfl) rfl (by rfl) (fun _ _ _ h => h) (by assumption) ?_ ?_
  rotate_left 1
  · intro w hSw
    try dsimp only at hSw
    go_simp
    try with_reducible rfl
  (try simp only [Act.put, List.setIfInBounds_toArray, List.set_cons_zero, List.set_cons_succ])
  refine take_met 11 (oi := ⟨_, _, _, _, _, _⟩) (v := ?_) (by kernel_rfl) rfl (by rfl) (fun _ _ _ h => h) (by assumption) ?_ ?_
  rotate_left 1
  · intro w hSw
    try dsimp only at hSw
    go_simp
    try with_reducible rfl
  (try simp only [Act.put, List.setIfInBounds_toArray, List.set_cons_zero, List.set_cons_succ])
  refine take_met 12 (oi := ⟨_, _, _, _, _, _⟩) (v := ?_) (by kernel_rfl) rfl (by rfl) (fun _ _ _ h => h) (by assumption) ?_ ?_
  rotate_left 1
  · intro w hSw
    try dsimp only at hSw
    go_simp
    try with_reducible rfl
  (try simp only [Act.put, List.setIfInBounds_toArray, List.set_cons_zero, List.set_cons_succ])
  refine take_met 13 (oi := ⟨_, _, _, _, _, _⟩) (v := ?_) (by kernel_rfl) rfl (by rfl) (fun _ _ _ h => h) (by assumption) ?_ ?_
  rotate_left 1
  · intro w hSw
    try dsimp only at hSw
    go_simp
    try with_reducible rfl
  (try simp only [Act.put, List.setIfInBounds_toArray, List.set_cons_zero, List.set_cons_succ])
  refine take_met 14 (oi := ⟨_, _, _, _, _, _⟩) (v := ?_) (by kernel_rfl) rfl (by rfl) (fun _ _ _ h => h) (by assumption) ?_ ?_
  rotate_left 1
  · intro w hSw
    try dsimp only at hSw
    go_simp
    try with_reducible rfl
  (try simp only [Act.put, List.setIfInBounds_toArray, List.set_cons_zero, List.set_cons_succ])
  refine take_met 15 (oi := ⟨_, _, _, _, _, _⟩) (v := ?_) (by kernel_rfl) rfl (by rfl) (fun _ _ _ h => h) (by assumption) ?_ ?_
  rotate_left 1
  · intro w hSw
    try dsimp only at hSw
    go_simp
    try with_reducible rfl
  (try simp only [Act.put, List.setIfInBounds_toArray, List.set_cons_zero, List.set_cons_succ])
  refine take_only 16 (oi := ⟨_, _, _, _, _, _⟩) (by kernel_rfl) rfl (fun K hK => ?_)
  go_simp
  have hOld := hHeld
  clear hHeld
  refine hK.out _ _ (by exact ⟨⟨(show Grn g wr _ from by (show Grn _ _ _; repeat (first | with_reducible exact Grn.refl | with_reducible refine Grn.setCell ?_ _ _ | with_reducible refine Grn.ext ?_ _ | with_reducible refine Grn.alloc ?_ _ | with_reducible refine Grn.drew ?_))).cell hn0 c12, (show Grn g wr _ from by (show Grn _ _ _; repeat (first | with_reducible exact Grn.refl | with_reducible refine Grn.setCell ?_ _ _ | with_reducible refine Grn.ext ?_ _ | with_reducible refine Grn.alloc ?_ _ | with_reducible refine Grn.drew ?_))).cell hn0 c14⟩, (show Grn g wr _ from by (show Grn _ _ _; repeat (first | with_reducible exact Grn.refl | with_reducible refine Grn.setCell ?_ _ _ | with_reducible refine Grn.ext ?_ _ | with_reducible refine Grn.alloc ?_ _ | with_reducible refine Grn.drew ?_))).cell hbag k0, (show Grn g wr _ from by (show Grn _ _ _; repeat (first | with_reducible exact Grn.refl | with_reducible refine Grn.setCell ?_ _ _ | with_reducible refine Grn.ext ?_ _ | with_reducible refine Grn.alloc ?_ _ | with_reducible refine Grn.drew ?_))).cell hbng k1, (show Grn g wr _ from by (show Grn _ _ _; repeat (first | with_reducible exact Grn.refl | with_reducible refine Grn.setCell ?_ _ _ | with_reducible refine Grn.ext ?_ _ | with_reducible refine Grn.alloc ?_ _ | with_reducible refine Grn.drew ?_))).cell hbng k2, (show Grn g wr _ from by (show Grn _ _ _; repeat (first | with_reducible exact Grn.refl | with_reducible refine Grn.setCell ?_ _ _ | with_reducible refine Grn.ext ?_ _ | with_reducible refine Grn.alloc ?_ _ | with_reducible refine Grn.drew ?_))).cell hbng k3⟩) (fun hHeld => ?_)
  clear hOld hK K
  (try simp only [Act.put, List.setIfInBounds_toArray, List.set_cons_zero, List.set_cons_succ])
  refine wpAnyH_done (by kernel_rfl) ?_ _
  go_wp2_with fail
  go_roundw
  case rel => exact ⟨j + 1, M.set p (z1, z2, z3), by omega, by omega, by go_num, hid (HI.out.set _ HZo.out), hid (Own.drew (Ws.put HL.out (by rw [HI.out.1]; exact hp4) z1 z2 z3)), hid ((((HG.out.setCell _ _).setCell _ _).setCell _ _).drew)⟩
  case measure => simp [intOf]; omega
end

end Go.Proofs.YtfijnpfhffhffaaDoor
