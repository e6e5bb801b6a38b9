/- Plain: the recovery code issues the acts of the reference, whatever comes back. -/
import Derived.Test.YtdpbcfjfnclpiaaDoorPk15
namespace Go.Proofs.YtdpbcfjfnclpiaaDoor
set_option linter.unusedSimpArgs false
set_option linter.unusedVariables false
open Go.RowKit
theorem drop_at {l : List Nat} {i p : Nat} (h : l[i]? = some p) : l.drop i = p :: l.drop (i + 1) := by
 obtain ⟨hi, he⟩ := List.getElem?_eq_some_iff.1 h
 rw [List.drop_eq_getElem_cons hi, he]
theorem drop_out {l : List Nat} {i : Nat} (h : l[i]? = none) : l.drop i = [] := List.drop_eq_nil_of_le (List.getElem?_eq_none_iff.1 h)
def cRound (K : RK) (c : CS) : CS := if (cPhase K c).2 = true then { (cPhase K c).1 with step := (cPhase K c).1.step + 1 } else (cPhase K c).1
theorem both_more {K : RK} {c : CS} {r : RS × Ac} (h : c.acts = []) (h2 : c.loads = []) (h3 : c.step < 5) (hb : c.stored.length ≤ 50000) (h4 : Both K (cRound K c) r) : Both K c r := by
 obtain ⟨n, c', h5, h6⟩ := h4
 exact ⟨n + 1, c', .more n c c' _ _ h h2 h3 hb h5, h6⟩
section
variable {K : RK} {c : CS} {s : RS}
theorem spin_own (hb : s.st.length ≤ 50000) (h0 : Rel0 K c s) (hs : c.step = 3) (hl : c.th = K.os.drop s.i) (hi : Idle c) : Both K c (rOwn K s) := by
 obtain ⟨he, ha, hst⟩ := h0
 obtain ⟨hlo, hld, hp⟩ := hi
 refine both_more ha hlo (by omega) (by rw [hst]; exact hb) ?_
 cases hq : K.os[s.i]? with
 | some p =>
  rw [drop_at hq] at hl
  have e : cRound K c = { c with loaded := [], loads := [p], part := 1 } := by
   unfold cRound cPhase cQuiet; simp [hs, hl, hp]
  rw [e]
  have e2 : rOwn K s = ({ s with ph := 8 }, ((1 : Int), (p : Int), zW)) := by unfold rOwn; rw [hq]
  rw [e2]
  refine ⟨0, _, .load _ p [] ha rfl, .p8 p rfl ⟨he, ha, hst⟩ hs hq (by rw [drop_at hq]; exact hl) ⟨rfl, rfl, rfl, rfl⟩⟩
 | none =>
  rw [drop_out hq] at hl
  have e : cRound K c = { c with step := 4 } := by
   unfold cRound cPhase cQuiet; simp [hs, hl]
  rw [e]
  refine both_more ha hlo (by show 4 < 5; omega) (by show c.stored.length ≤ _; rw [hst]; exact hb) ?_
  cases hst2 : s.st with
  | nil =>
   have e3 : cRound K { c with step := 4 } = { c with step := 5, stored := [] } := by
    unfold cRound cPhase cKeep; simp [ha, hst, hst2]
   rw [e3]
   have e2 : rOwn K s = ({ s with j := 0, ph := 12 }, (0, 0, zW)) := by unfold rOwn; rw [hq, hst2]
   rw [e2]
   exact ⟨0, _, .done _ ha hlo (by show 5 ≤ 5; omega), .p12 rfl rfl⟩
  | cons p r =>
   have e3 : cRound K { c with step := 4 } = { c with step := 5, stored := [], acts := ((p :: r).map (fun (p : Nat) => ((7 : Int), (p : Int), zW))) ++ [(8, 0, zW)] } := by
    unfold cRound cPhase cKeep; simp [ha, hst, hst2]
   rw [e3]
   have e2 : rOwn K s = ({ s with j := 0, ph := 10 }, ((7 : Int), (p : Int), zW)) := by unfold rOwn; rw [hq, hst2]
   rw [e2]
   exact ⟨0, _, .act _ _ (r.map (fun (p : Nat) => ((7 : Int), (p : Int), zW)) ++ [(8, 0, zW)]) rfl, .p10 rfl he rfl rfl (by rw [hst2]; simp) (by rw [hst2]; rfl) ⟨hlo, hld, hp⟩⟩
theorem spin_status (hb : s.st.length ≤ 50000) (h0 : Rel0 K c s) (hs : c.step = 2) (hl : c.sl = K.ss.drop s.i) (h2 : c.th = K.os) (hi : Idle c) : Both K c (rStatus K s) := by
 have hi2 := hi
 obtain ⟨he, ha, hst⟩ := h0
 obtain ⟨hlo, hld, hp⟩ := hi
 refine both_more ha hlo (by omega) (by rw [hst]; exact hb) ?_
 cases hq : K.ss[s.i]? with
 | some p =>
  rw [drop_at hq] at hl
  have e : cRound K c = { c with loaded := [], loads := [p], part := 1 } := by
   unfold cRound cPhase cSettle; simp [hs, hl, hp]
  rw [e]
  have e2 : rStatus K s = ({ s with ph := 6 }, ((1 : Int), (p : Int), zW)) := by unfold rStatus; rw [hq]
  rw [e2]
  exact ⟨0, _, .load _ p [] ha rfl, .p6 p rfl ⟨he, ha, hst⟩ hs hq (by rw [drop_at hq]; exact hl) h2 ⟨rfl, rfl, rfl, rfl⟩⟩
 | none =>
  rw [drop_out hq] at hl
  have e : cRound K c = { c with step := 3 } := by
   unfold cRound cPhase cSettle; simp [hs, hl]
  rw [e]
  have e2 : rStatus K s = rOwn K { s with i := 0 } := by unfold rStatus; rw [hq]
  rw [e2]
  exact spin_own (s := { s with i := 0 }) hb ⟨he, ha, hst⟩ rfl h2 ⟨hlo, hld, hp⟩
theorem spin_word (hb : s.st.length ≤ 50000) (h0 : Rel0 K c s) (hs : c.step = 0) (hl : c.pl = K.ms.drop s.i) (h1 : c.sl = K.ss) (h2 : c.th = K.os) (hi : Idle c) : Both K c (rWord K s) := by
 obtain ⟨he, ha, hst⟩ := h0
 obtain ⟨hlo, hld, hp⟩ := hi
 refine both_more ha hlo (by omega) (by rw [hst]; exact hb) ?_
 cases hq : K.ms[s.i]? with
 | some p =>
  rw [drop_at hq] at hl
  have e : cRound K c = { c with loaded := [], loads := [p], part := 1 } := by
   unfold cRound cPhase cPlain; simp [hs, hl, hp]
  rw [e]
  have e2 : rWord K s = ({ s with ph := 1 }, ((1 : Int), (p : Int), zW)) := by unfold rWord; rw [hq]
  rw [e2]
  exact ⟨0, _, .load _ p [] ha rfl, .p1 p rfl ⟨he, ha, hst⟩ hs hq (by rw [drop_at hq]; exact hl) h1 h2 ⟨rfl, rfl, rfl, rfl⟩⟩
 | none =>
  rw [drop_out hq] at hl
  have e : cRound K c = { c with step := 1 } := by
   unfold cRound cPhase cPlain; simp [hs, hl]
  rw [e]
  refine both_more ha hlo (by show 1 < 5; omega) (by show c.stored.length ≤ _; rw [hst]; exact hb) ?_
  cases hst2 : s.st with
  | nil =>
   have e3 : cRound K { c with step := 1 } = { c with step := 2, stored := [] } := by
    unfold cRound cPhase cKeep; simp [ha, hst, hst2]
   rw [e3]
   have e2 : rWord K s = rStatus K { s with i := 0, j := 0 } := by unfold rWord; rw [hq, hst2]
   rw [e2]
   exact spin_status (s := { s with i := 0, j := 0 }) hb ⟨he, ha, by show [] = s.st; rw [hst2]⟩ rfl h1 h2 ⟨hlo, hld, hp⟩
  | cons p r =>
   have e3 : cRound K { c with step := 1 } = { c with step := 2, stored := [], acts := ((p :: r).map (fun (p : Nat) => ((7 : Int), (p : Int), zW))) ++ [(8, 0, zW)] } := by
    unfold cRound cPhase cKeep; simp [ha, hst, hst2]
   rw [e3]
   have e2 : rWord K s = ({ s with i := 0, j := 0, ph := 4 }, ((7 : Int), (p : Int), zW)) := by unfold rWord; rw [hq, hst2]
   rw [e2]
   exact ⟨0, _, .act _ _ (r.map (fun (p : Nat) => ((7 : Int), (p : Int), zW)) ++ [(8, 0, zW)]) rfl, .p4 rfl he rfl rfl (by rw [hst2]; simp) rfl (by rw [hst2]; rfl) h1 h2 ⟨hlo, hld, hp⟩⟩
theorem store_act {c : CS} {at_ : Nat} {w : Wd} (ha : c.acts = []) : (cStore c at_ w).acts = [(3, (at_ : Int), w)] := by unfold cStore; simp [ha]
end
theorem spin_plain {K : RK} {c : CS} {s : RS} {p : Nat} (hb : s.st.length ≤ 50000) (he : c.ended = false) (ha : c.acts = []) (hst : c.stored = s.st) (hs : c.step = 0) (hp : K.ms[s.i]? = some p) (h1 : c.sl = K.ss) (h2 : c.th = K.os) (hlo : c.loads = []) (hld : c.loading = false)
 (hr : cRound K c = cFin K c p (K.ms.drop (s.i + 1)) ∨ cRound K c = cFin K { c with part := 3 } p (K.ms.drop (s.i + 1))) (hh : (cHead c).2.2 ≠ 0) (himg : cImg K c.loaded = rImg K s p) : Both K c (rPlain K s) := by
 refine both_more ha hlo (by omega) (by rw [hst]; exact hb) ?_
 have hg : K.ms.getD s.i 0 = p := by rw [List.getD_eq_getElem?_getD, hp]; rfl
 have e2 : rPlain K s = ({ s with ph := 3, st := s.st ++ [p] }, (3, (p : Int), K.lg (rImg K s p) p)) := by unfold rPlain rStore; rw [hg]
 rw [e2]
 have hi := (List.getElem?_eq_some_iff.1 hp).1
 rcases hr with hr | hr
 ·rw [hr]
  unfold cFin
  rw [if_neg hh, himg]
  exact ⟨0, _, .act _ (3, (p : Int), K.lg (rImg K s p) p) [] (store_act ha), .p3 rfl ⟨he, rfl, by show c.stored ++ [p] = s.st ++ [p]; rw [hst]⟩ hs hi rfl h1 h2 ⟨hlo, hld, rfl⟩⟩
 ·rw [hr]
  unfold cFin
  rw [if_neg (show ¬ (cHead { c with part := 3 }).2.2 = 0 from hh)]
  show Both K _ _
  rw [show cImg K ({ c with part := 3 } : CS).loaded = rImg K s p from himg]
  exact ⟨0, _, .act _ (3, (p : Int), K.lg (rImg K s p) p) [] (store_act (c := { c with part := 3 }) ha), .p3 rfl ⟨he, rfl, by show c.stored ++ [p] = s.st ++ [p]; rw [hst]⟩ hs hi rfl h1 h2 ⟨hlo, hld, rfl⟩⟩
theorem take_wait {c : CS} {p : Nat} (h : Wait c p) (g : Wd) : cTake c g = { c with loaded := [(p, g)], loads := [], loading := false } := by
 obtain ⟨h1, h2, h3, h4⟩ := h
 unfold cTake
 rw [if_pos h3, h1, h2]
 rfl
theorem take_idle {c : CS} (h : c.loading = false) (g : Wd) : cTake c g = c := by
 unfold cTake; rw [h]; rfl
theorem head_one {p : Nat} {g : Wd} {c : CS} (h : c.loaded = [(p, g)]) : cHead c = g ∧ cLast c = g := by
 unfold cHead cLast; rw [h]; exact ⟨rfl, rfl⟩
theorem last_snoc {c : CS} {l : List (Nat × Wd)} {f : Nat × Wd} (h : c.loaded = l ++ [f]) : cLast c = f.2 := by
 unfold cLast; rw [h]; simp
theorem head_cons {c : CS} {l : List (Nat × Wd)} {f : Nat × Wd} (h : c.loaded = f :: l) : cHead c = f.2 := by
 unfold cHead; rw [h]
theorem spin_store {K : RK} {c c1 : CS} {r : RS × Ac} {at_ : Nat} {w : Wd} (hb : c.stored.length ≤ 50000) (ha : c.acts = []) (hlo : c.loads = []) (hs : c.step < 5) (h1 : (cRound K c).acts = [(3, (at_ : Int), w)]) (e : r.2 = ((3 : Int), (at_ : Int), w)) (hd : ¬ r.1.ph = 12)
 (hc : { cRound K c with acts := [] } = c1) (h : Rel K c1 r.1) : Both K c r := by
 refine both_more ha hlo hs hb ⟨0, c1, ?_, h⟩
 rw [e, decide_eq_false hd, ← hc]
 exact .act _ _ [] h1
theorem both_next (K : RK) (hK : KOk K) {c : CS} {s : RS} (h : Rel K c s) (h12 : s.ph ≠ 12) (hbd : s.st.length ≤ 50000) (g : Wd) : Both K (cTake c g) (rNext K s g) := by
 cases h with
 | p1 p hph h0 hs hp hl h1 h2 hw =>
  obtain ⟨he, ha, hst⟩ := h0
  rw [take_wait hw g]
  have hd := hl
  rw [drop_at hp] at hd
  have hpt : c.part = 1 := hw.part
  have e0 : rNext K s g = if g.2.2 = 0 then rWord K { s with i := s.i + 1 } else if (whoN g.2.2).1 = 0 ∨ (rPl K { s with met := g, ld := [] }).2 = 0 then rPlain K { s with met := g, ld := [] } else ({ s with met := g, ld := [], ph := 2 }, (1, (rPl K { s with met := g, ld := [] }).1, zW)) := by
   unfold rNext; simp [hph]
  rw [e0]
  obtain ⟨c1, hc1⟩ : ∃ c1, c1 = { c with loaded := [(p, g)], loads := [], loading := false } := ⟨_, rfl⟩
  rw [← hc1]
  have k1 : c1.acts = [] := by rw [hc1]; exact ha
  have k2 : c1.loads = [] := by rw [hc1]
  have k3 : c1.step = 0 := by rw [hc1]; exact hs
  have k4 : c1.part = 1 := by rw [hc1]; exact hpt
  have k5 : c1.pl = p :: K.ms.drop (s.i + 1) := by rw [hc1]; exact hd
  have k6 : c1.loaded = [(p, g)] := by rw [hc1]
  obtain ⟨k7, k8⟩ := head_one k6
  have k9 : c1.ended = false ∧ c1.stored = s.st ∧ c1.sl = K.ss ∧ c1.th = K.os ∧ c1.loading = false := by rw [hc1]; exact ⟨he, hst, h1, h2, rfl⟩
  by_cases hg : g.2.2 = 0
  ·rw [if_pos hg]
   have e : cRound K c1 = { c1 with pl := K.ms.drop (s.i + 1), part := 0 } := by
    unfold cRound cPhase cPlain cFin cWho
    simp [k3, k4, k5, k7, k8, hg]
   refine both_more k1 k2 (by omega) (by rw [k9.2.1]; exact hbd) ?_
   rw [e]
   exact spin_word (s := { s with i := s.i + 1 }) hbd ⟨k9.1, k1, k9.2.1⟩ k3 rfl k9.2.2.1 k9.2.2.2.1 ⟨k2, k9.2.2.2.2, rfl⟩
  ·rw [if_neg hg]
   obtain ⟨hr1, hr2⟩ := hK.room (whoN g.2.2).1
   by_cases hb : (whoN g.2.2).1 = 0 ∨ (rPl K { s with met := g, ld := [] }).2 = 0
   ·rw [if_pos hb]
    have hw0 : cWho K g = false := by
     unfold cWho cPl
     rcases hb with hb | hb
     ·rw [hb]; simp
     ·have hb2 : (K.place (whoN g.2.2).1).2 = 0 := hb
      have : ¬ 0 ≤ (K.place (whoN g.2.2).1).1 := fun h => (hr1.1 h) hb2
      simp [this]
    refine spin_plain (c := c1) (s := { s with met := g, ld := [] }) hbd k9.1 k1 k9.2.1 k3 hp k9.2.2.1 k9.2.2.2.1 k2 k9.2.2.2.2 (.inl ?_) (by rw [k7]; exact hg) (by rw [k6]; exact img_one K (s := { s with met := g, ld := [] }) rfl)
    unfold cRound cPhase cPlain
    simp [k3, k4, k5, k8, hw0]
   ·rw [if_neg hb]
    have hb1 : (whoN g.2.2).1 ≠ 0 := fun h => hb (.inl h)
    have hb2 : (K.place (whoN g.2.2).1).2 ≠ 0 := fun h => hb (.inr h)
    have hp0 : 0 ≤ (K.place (whoN g.2.2).1).1 := hr1.2 hb2
    have hwp : 0 < (whoN g.2.2).1 := by
     have : 0 ≤ (whoN g.2.2).1 := by unfold whoN; split <;> (dsimp only; omega)
     omega
    have hw0 : cWho K g = true := by
     unfold cWho cPl
     simp [hg, hwp, hp0]
    have e : cRound K c1 = { c1 with loads := [(K.place (whoN g.2.2).1).1.toNat, (K.place (whoN g.2.2).1).1.toNat + 1], part := 2 } := by
     unfold cRound cPhase cPlain
     simp [k3, k4, k5, k8, hw0]
     rfl
    refine both_more k1 k2 (by omega) (by rw [k9.2.1]; exact hbd) ?_
    rw [e]
    have ec : (rPl K { s with met := g, ld := [] }).1 = (((K.place (whoN g.2.2).1).1.toNat : Nat) : Int) := by
     show (K.place (whoN g.2.2).1).1 = _
     omega
    rw [ec]
    exact ⟨0, _, .load _ _ [(K.place (whoN g.2.2).1).1.toNat + 1] k1 rfl, .p2 p rfl ⟨k9.1, k1, k9.2.1⟩ k3 hp (by rw [drop_at hp]; exact k5) k9.2.2.1 k9.2.2.2.1 rfl hg hwp hp0 k6 (.inl ⟨rfl, rfl, rfl⟩)⟩
 | p2 p hph h0 hs hp hl h1 h2 hld hm hw ha0 hloaded hc =>
  obtain ⟨he, ha, hst⟩ := h0
  have hd := hl
  rw [drop_at hp] at hd
  have hrp : ∀ l, rPl K { s with ld := l } = rPl K s := fun _ => rfl
  have e0 : rNext K s g = if (s.ld ++ [g]).length < rMany K { s with ld := s.ld ++ [g] } then ({ s with ld := s.ld ++ [g] }, (1, (rPl K s).1 + ((s.ld ++ [g]).length : Nat), zW)) else rPlain K { s with ld := s.ld ++ [g] } := by
   unfold rNext; simp [hph]; rfl
  rw [e0]
  obtain ⟨f, hf⟩ : ∃ f, f = (rPl K s).1.toNat := ⟨_, rfl⟩
  have hfi : (rPl K s).1 = (f : Int) := by omega
  rw [← hf] at hloaded hc
  have hpos : 0 < (rPl K s).2 := by
   have h3 := (hK.room (whoN s.met.2.2).1)
   have h4 : (rPl K s).2 ≠ 0 := h3.1.1 ha0
   have h5 : 0 ≤ (rPl K s).2 := h3.2
   omega
  have hlow : p < f := by
   have := hK.low p (List.mem_of_getElem? hp) (whoN s.met.2.2).1 ha0
   rw [hf]; exact this
  have hnxt : ∀ rest, c.loads = (f + s.ld.length) :: rest → cTake c g = { c with loaded := (p, s.met) :: ldAt f (s.ld ++ [g]), loads := rest, loading := false } := by
   intro rest h
   unfold cTake
   rw [if_pos hld, h, hloaded, List.cons_append, ← ldAt_snoc]
   rfl
  have himg : cImg K ((p, s.met) :: ldAt f (s.ld ++ [g])) = rImg K { s with ld := s.ld ++ [g] } p := by
   rw [hf]
   exact img_eq K (s := { s with ld := s.ld ++ [g] }) hpos (by rw [hrp, ← hf]; exact hlow)
  -- another load of a list that is there
  have go : ∀ (q : Nat) (rest : List Nat) (pt : Nat), c.loads = (f + s.ld.length) :: q :: rest → q = f + (s.ld ++ [g]).length → c.part = pt → (s.ld ++ [g]).length < rMany K { s with ld := s.ld ++ [g] } →
   ((pt = 2 ∧ (s.ld ++ [g]) = [] ∧ q :: rest = [f, f + 1]) ∨ (∃ x, pt = 2 ∧ (s.ld ++ [g]) = [x] ∧ q :: rest = [f + 1]) ∨
   (∃ x, pt = 3 ∧ (s.ld ++ [g])[1]? = some x ∧ (1 ≤ x.1 ∧ x.1 ≤ (rPl K s).2) ∧ (s.ld ++ [g]).length < 2 + 3 * x.1.toNat ∧ q :: rest = (List.range (2 + 3 * x.1.toNat - (s.ld ++ [g]).length)).map (fun k => f + (s.ld ++ [g]).length + k))) →
   Both K (cTake c g) (if (s.ld ++ [g]).length < rMany K { s with ld := s.ld ++ [g] } then ({ s with ld := s.ld ++ [g] }, (1, (rPl K s).1 + ((s.ld ++ [g]).length : Nat), zW)) else rPlain K { s with ld := s.ld ++ [g] }) := by
   intro q rest pt hlds hq hpt hlt hnew
   rw [if_pos hlt, hnxt _ hlds]
   refine ⟨0, { c with loaded := (p, s.met) :: ldAt f (s.ld ++ [g]), loads := q :: rest, loading := true }, ?_, .p2 p hph ⟨he, ha, hst⟩ hs hp hl h1 h2 rfl hm hw ha0 (by rw [hf]; rfl) (by subst hpt; rw [hf] at hnew; exact hnew)⟩
   rw [decide_eq_false (by show ¬ s.ph = 12; omega)]
   have e1 : (rPl K s).1 + (((s.ld ++ [g]).length : Nat) : Int) = ((q : Nat) : Int) := by rw [hfi, hq]; omega
   rw [e1]
   exact .load _ q rest ha rfl
  rcases hc with ⟨hpt, hn, hlds⟩ | ⟨x, hpt, hx, hlds⟩ | ⟨x, hpt, hx, hxb, hlt, hlds⟩
  ·-- the descriptor's first word
   refine go (f + 1) [] 2 (by rw [hlds, hn]; rfl) (by rw [hn]; rfl) hpt (by rw [hn]; unfold rMany; simp) (.inr (.inl ⟨g, rfl, by rw [hn]; rfl, rfl⟩))
  ·-- the number of entries
   have hln : s.ld.length = 1 := by rw [hx]; rfl
   have hl2 : (s.ld ++ [g]).length = 2 := by rw [hx]; rfl
   have hx1 : (s.ld ++ [g])[1]? = some g := by rw [hx]; rfl
   rw [hnxt [] (by rw [hlds, hln])]
   obtain ⟨c1, hc1⟩ : ∃ c1, c1 = { c with loaded := (p, s.met) :: ldAt f (s.ld ++ [g]), loads := [], loading := false } := ⟨_, rfl⟩
   rw [← hc1]
   have k1 : c1.acts = [] := by rw [hc1]; exact ha
   have k2 : c1.loads = [] := by rw [hc1]
   have k3 : c1.step = 0 := by rw [hc1]; exact hs
   have k4 : c1.part = 2 := by rw [hc1]; exact hpt
   have k5 : c1.pl = p :: K.ms.drop (s.i + 1) := by rw [hc1]; exact hd
   have k6 : c1.loaded = (p, s.met) :: ldAt f (s.ld ++ [g]) := by rw [hc1]
   have k7 : cHead c1 = s.met := head_cons k6
   have k8 : cLast c1 = g := by
    rw [← ldAt_snoc] at k6
    exact last_snoc (l := (p, s.met) :: ldAt f s.ld) k6
   have k9 : c1.ended = false ∧ c1.stored = s.st ∧ c1.sl = K.ss ∧ c1.th = K.os ∧ c1.loading = false := by rw [hc1]; exact ⟨he, hst, h1, h2, rfl⟩
   have kp : cPl K s.met = rPl K s := rfl
   have hmany : rMany K { s with ld := s.ld ++ [g] } = if 1 ≤ g.1 ∧ g.1 ≤ (rPl K s).2 then 2 + 3 * g.1.toNat else 2 := by
    unfold rMany; simp only [hx1, hrp]
   by_cases hb : 1 ≤ g.1 ∧ g.1 ≤ (rPl K s).2
   ·rw [hmany, if_pos hb, if_pos (by rw [hl2]; omega)]
    have e : cRound K c1 = { c1 with part := 3, loads := (List.range (3 * g.1.toNat)).map (fun i => f + 2 + i) } := by
     unfold cRound cPhase cPlain
     simp [k3, k4, k5, k8, k7, kp, hb, k2, ← hf]
    refine both_more k1 k2 (by omega) (by rw [k9.2.1]; exact hbd) ?_
    rw [e]
    obtain ⟨m, hm3⟩ : ∃ m, 3 * g.1.toNat = m + 1 := ⟨3 * g.1.toNat - 1, by omega⟩
    have hr : (List.range (3 * g.1.toNat)).map (fun i => f + 2 + i) = (f + 2) :: (List.range m).map (fun i => f + 2 + (i + 1)) := by
     rw [hm3, List.range_succ_eq_map, List.map_cons, List.map_map]; rfl
    refine ⟨0, { c1 with part := 3, loads := (List.range (3 * g.1.toNat)).map (fun i => f + 2 + i), loading := true }, ?_, .p2 p hph ⟨k9.1, k1, k9.2.1⟩ k3 hp (by rw [drop_at hp]; exact k5) k9.2.2.1 k9.2.2.2.1 rfl hm hw ha0 (by rw [hf] at k6; exact k6)
     (.inr (.inr ⟨g, rfl, hx1, hb, by show (s.ld ++ [g]).length < _; rw [hl2]; omega, ?_⟩))⟩
    ·rw [decide_eq_false (by show ¬ s.ph = 12; omega)]
     have e1 : (rPl K s).1 + (((s.ld ++ [g]).length : Nat) : Int) = (((f + 2 : Nat)) : Int) := by rw [hfi, hl2]; omega
     rw [e1]
     exact .load _ (f + 2) _ k1 hr
    ·show (List.range (3 * g.1.toNat)).map (fun i => f + 2 + i) = (List.range (2 + 3 * g.1.toNat - (s.ld ++ [g]).length)).map (fun k => (rPl K { s with ld := s.ld ++ [g] }).1.toNat + (s.ld ++ [g]).length + k)
     rw [hrp, ← hf, hl2, show 2 + 3 * g.1.toNat - 2 = 3 * g.1.toNat by omega]
   ·rw [hmany, if_neg hb, if_neg (by rw [hl2]; omega)]
    refine spin_plain (c := c1) (s := { s with ld := s.ld ++ [g] }) hbd k9.1 k1 k9.2.1 k3 hp k9.2.2.1 k9.2.2.2.1 k2 k9.2.2.2.2 (.inr ?_) (by rw [k7]; exact hm) (by rw [k6]; exact himg)
    unfold cRound cPhase cPlain
    simp [k3, k4, k5, k8, k7, kp, hb]
  ·-- the entries' words
   have hln2 : 2 ≤ s.ld.length := by have := (List.getElem?_eq_some_iff.1 hx).1; omega
   have hx1 : (s.ld ++ [g])[1]? = some x := by rw [List.getElem?_append_left (by omega)]; exact hx
   have hmany : rMany K { s with ld := s.ld ++ [g] } = 2 + 3 * x.1.toNat := by
    unfold rMany; simp only [hx1, hrp]; rw [if_pos hxb]
   have hlen : (s.ld ++ [g]).length = s.ld.length + 1 := by simp
   obtain ⟨m, hm3⟩ : ∃ m, 2 + 3 * x.1.toNat - s.ld.length = m + 1 := ⟨2 + 3 * x.1.toNat - s.ld.length - 1, by omega⟩
   have hr : c.loads = (f + s.ld.length) :: (List.range m).map (fun k => f + (s.ld ++ [g]).length + k) := by
    rw [hlds, hm3, List.range_succ_eq_map, List.map_cons, List.map_map, hlen]
    congr 1
    apply List.map_congr_left
    intro a _
    show f + s.ld.length + (a + 1) = f + (s.ld.length + 1) + a
    omega
   cases m with
   | zero =>
    rw [hnxt [] (by rw [hr]; rfl), hmany, if_neg (by rw [hlen]; omega)]
    obtain ⟨c1, hc1⟩ : ∃ c1, c1 = { c with loaded := (p, s.met) :: ldAt f (s.ld ++ [g]), loads := [], loading := false } := ⟨_, rfl⟩
    rw [← hc1]
    have k1 : c1.acts = [] := by rw [hc1]; exact ha
    have k2 : c1.loads = [] := by rw [hc1]
    have k3 : c1.step = 0 := by rw [hc1]; exact hs
    have k4 : c1.part = 3 := by rw [hc1]; exact hpt
    have k5 : c1.pl = p :: K.ms.drop (s.i + 1) := by rw [hc1]; exact hd
    have k6 : c1.loaded = (p, s.met) :: ldAt f (s.ld ++ [g]) := by rw [hc1]
    have k7 : cHead c1 = s.met := head_cons k6
    have k9 : c1.ended = false ∧ c1.stored = s.st ∧ c1.sl = K.ss ∧ c1.th = K.os ∧ c1.loading = false := by rw [hc1]; exact ⟨he, hst, h1, h2, rfl⟩
    refine spin_plain (c := c1) (s := { s with ld := s.ld ++ [g] }) hbd k9.1 k1 k9.2.1 k3 hp k9.2.2.1 k9.2.2.2.1 k2 k9.2.2.2.2 (.inl ?_) (by rw [k7]; exact hm) (by rw [k6]; exact himg)
    unfold cRound cPhase cPlain
    simp [k3, k4, k5]
   | succ m =>
    rw [List.range_succ_eq_map, List.map_cons, List.map_map] at hr
    refine go (f + (s.ld ++ [g]).length) _ 3 hr rfl hpt (by rw [hmany, hlen]; omega) (.inr (.inr ⟨x, rfl, hx1, hxb, by rw [hlen]; omega, ?_⟩))
    rw [show 2 + 3 * x.1.toNat - (s.ld ++ [g]).length = m + 1 by rw [hlen]; omega, List.range_succ_eq_map, List.map_cons, List.map_map]
    rfl
 | p3 hph h0 hs hp hl h1 h2 hi =>
  rw [take_idle hi.loading]
  have e0 : rNext K s g = rWord K { s with i := s.i + 1 } := by unfold rNext; simp [hph]
  rw [e0]
  exact spin_word (s := { s with i := s.i + 1 }) hbd ⟨h0.ended, h0.acts, h0.stored⟩ hs hl h1 h2 hi
 | p4 hph he hst hs hj hi0 ha h1 h2 hi =>
  rw [take_idle hi.loading]
  cases hq : s.st[s.j + 1]? with
  | some p =>
   have e0 : rNext K s g = ({ s with j := s.j + 1 }, ((7 : Int), (p : Int), zW)) := by unfold rNext; simp [hph, hq]
   rw [e0, drop_at hq] at *
   refine ⟨0, { c with acts := (s.st.drop (s.j + 1 + 1)).map (fun (p : Nat) => ((7 : Int), (p : Int), zW)) ++ [(8, 0, zW)] }, ?_, .p4 hph he hst hs (List.getElem?_eq_some_iff.1 hq).1 hi0 rfl h1 h2 ⟨hi.loads, hi.loading, hi.part⟩⟩
   rw [decide_eq_false (by show ¬ s.ph = 12; omega)]
   exact .act _ _ _ ha
  | none =>
   have e0 : rNext K s g = ({ s with j := s.j + 1, ph := 5 }, ((8 : Int), (0 : Int), zW)) := by unfold rNext; simp [hph, hq]
   rw [drop_out hq] at ha
   rw [e0]
   exact ⟨0, _, .act _ _ [] ha, .p5 rfl he hst hs rfl hi0 h1 h2 ⟨hi.loads, hi.loading, hi.part⟩⟩
 | p5 hph he hst hs ha hi0 h1 h2 hi =>
  rw [take_idle hi.loading]
  have e0 : rNext K s g = rStatus K { s with st := [] } := by unfold rNext; simp [hph]
  rw [e0]
  exact spin_status (s := { s with st := [] }) (by simp) ⟨he, ha, hst⟩ hs (by rw [h1]; show K.ss = K.ss.drop s.i; rw [hi0]; rfl) h2 hi
 | p6 p hph h0 hs hp hl h2 hw =>
  obtain ⟨he, ha, hst⟩ := h0
  rw [take_wait hw g]
  have hd := hl
  rw [drop_at hp] at hd
  have hpt : c.part = 1 := hw.part
  have hgd : K.ss.getD s.i 0 = p := by rw [List.getD_eq_getElem?_getD, hp]; rfl
  have e0 : rNext K s g = if undB g = true then rStore s 7 p (2, g.2.1, 0) else rStatus K { s with i := s.i + 1 } := by
   unfold rNext; simp [hph, ← hgd]
  rw [e0]
  obtain ⟨c1, hc1⟩ : ∃ c1, c1 = { c with loaded := [(p, g)], loads := [], loading := false } := ⟨_, rfl⟩
  rw [← hc1]
  have k1 : c1.acts = [] := by rw [hc1]; exact ha
  have k2 : c1.loads = [] := by rw [hc1]
  have k3 : c1.step = 2 := by rw [hc1]; exact hs
  have k4 : c1.part = 1 := by rw [hc1]; exact hpt
  have k5 : c1.sl = p :: K.ss.drop (s.i + 1) := by rw [hc1]; exact hd
  have k6 : c1.loaded = [(p, g)] := by rw [hc1]
  obtain ⟨k7, k8⟩ := head_one k6
  have k9 : c1.ended = false ∧ c1.stored = s.st ∧ c1.th = K.os ∧ c1.loading = false := by rw [hc1]; exact ⟨he, hst, h2, rfl⟩
  have hi := (List.getElem?_eq_some_iff.1 hp).1
  by_cases hg : undB g = true
  ·rw [if_pos hg]
   have e : cRound K c1 = { cStore c1 p (2, g.2.1, 0) with sl := K.ss.drop (s.i + 1), part := 0 } := by
    unfold cRound cPhase cSettle
    simp [k3, k4, k5, k8, hg]
   refine spin_store (by rw [k9.2.1]; exact hbd) k1 k2 (by omega) (by rw [e]; exact store_act k1) rfl (by show ¬ 7 = 12; omega) rfl ?_
   rw [e]
   exact .p7 rfl ⟨k9.1, rfl, by show c1.stored ++ [p] = s.st ++ [p]; rw [k9.2.1]⟩ k3 hi rfl k9.2.2.1 ⟨k2, k9.2.2.2, rfl⟩
  ·rw [if_neg hg]
   have e : cRound K c1 = { c1 with sl := K.ss.drop (s.i + 1), part := 0 } := by
    unfold cRound cPhase cSettle
    simp [k3, k4, k5, k8, hg]
   refine both_more k1 k2 (by omega) (by rw [k9.2.1]; exact hbd) ?_
   rw [e]
   exact spin_status (s := { s with i := s.i + 1 }) hbd ⟨k9.1, k1, k9.2.1⟩ k3 rfl k9.2.2.1 ⟨k2, k9.2.2.2, rfl⟩
 | p7 hph h0 hs hp hl h2 hi =>
  rw [take_idle hi.loading]
  have e0 : rNext K s g = rStatus K { s with i := s.i + 1 } := by unfold rNext; simp [hph]
  rw [e0]
  exact spin_status (s := { s with i := s.i + 1 }) hbd ⟨h0.ended, h0.acts, h0.stored⟩ hs hl h2 hi
 | p8 p hph h0 hs hp hl hw =>
  obtain ⟨he, ha, hst⟩ := h0
  rw [take_wait hw g]
  have hd := hl
  rw [drop_at hp] at hd
  have hpt : c.part = 1 := hw.part
  have hgd : K.os.getD s.i 0 = p := by rw [List.getD_eq_getElem?_getD, hp]; rfl
  have e0 : rNext K s g = if wdB g zW = true then rOwn K { s with i := s.i + 1 } else rStore s 9 p zW := by
   unfold rNext; simp [hph, ← hgd]
  rw [e0]
  obtain ⟨c1, hc1⟩ : ∃ c1, c1 = { c with loaded := [(p, g)], loads := [], loading := false } := ⟨_, rfl⟩
  rw [← hc1]
  have k1 : c1.acts = [] := by rw [hc1]; exact ha
  have k2 : c1.loads = [] := by rw [hc1]
  have k3 : c1.step = 3 := by rw [hc1]; exact hs
  have k4 : c1.part = 1 := by rw [hc1]; exact hpt
  have k5 : c1.th = p :: K.os.drop (s.i + 1) := by rw [hc1]; exact hd
  have k6 : c1.loaded = [(p, g)] := by rw [hc1]
  obtain ⟨k7, k8⟩ := head_one k6
  have k9 : c1.ended = false ∧ c1.stored = s.st ∧ c1.loading = false := by rw [hc1]; exact ⟨he, hst, rfl⟩
  have hi := (List.getElem?_eq_some_iff.1 hp).1
  by_cases hg : wdB g zW = true
  ·rw [if_pos hg]
   have e : cRound K c1 = { c1 with th := K.os.drop (s.i + 1), part := 0 } := by
    unfold cRound cPhase cQuiet
    simp [k3, k4, k5, k8, hg]
   refine both_more k1 k2 (by omega) (by rw [k9.2.1]; exact hbd) ?_
   rw [e]
   exact spin_own (s := { s with i := s.i + 1 }) hbd ⟨k9.1, k1, k9.2.1⟩ k3 rfl ⟨k2, k9.2.2, rfl⟩
  ·rw [if_neg hg]
   have e : cRound K c1 = { cStore c1 p zW with th := K.os.drop (s.i + 1), part := 0 } := by
    unfold cRound cPhase cQuiet
    simp [k3, k4, k5, k8, hg]
   refine spin_store (by rw [k9.2.1]; exact hbd) k1 k2 (by omega) (by rw [e]; exact store_act k1) rfl (by show ¬ 9 = 12; omega) rfl ?_
   rw [e]
   exact .p9 rfl ⟨k9.1, rfl, by show c1.stored ++ [p] = s.st ++ [p]; rw [k9.2.1]⟩ k3 hi rfl ⟨k2, k9.2.2, rfl⟩
 | p9 hph h0 hs hp hl hi =>
  rw [take_idle hi.loading]
  have e0 : rNext K s g = rOwn K { s with i := s.i + 1 } := by unfold rNext; simp [hph]
  rw [e0]
  exact spin_own (s := { s with i := s.i + 1 }) hbd ⟨h0.ended, h0.acts, h0.stored⟩ hs hl hi
 | p10 hph he hst hs hj ha hi =>
  rw [take_idle hi.loading]
  cases hq : s.st[s.j + 1]? with
  | some p =>
   have e0 : rNext K s g = ({ s with j := s.j + 1 }, ((7 : Int), (p : Int), zW)) := by unfold rNext; simp [hph, hq]
   rw [e0, drop_at hq] at *
   refine ⟨0, { c with acts := (s.st.drop (s.j + 1 + 1)).map (fun (p : Nat) => ((7 : Int), (p : Int), zW)) ++ [(8, 0, zW)] }, ?_, .p10 hph he hst hs (List.getElem?_eq_some_iff.1 hq).1 rfl ⟨hi.loads, hi.loading, hi.part⟩⟩
   rw [decide_eq_false (by show ¬ s.ph = 12; omega)]
   exact .act _ _ _ ha
  | none =>
   have e0 : rNext K s g = ({ s with j := s.j + 1, ph := 11 }, ((8 : Int), (0 : Int), zW)) := by unfold rNext; simp [hph, hq]
   rw [drop_out hq] at ha
   rw [e0]
   exact ⟨0, _, .act _ _ [] ha, .p11 rfl he hst hs rfl ⟨hi.loads, hi.loading, hi.part⟩⟩
 | p11 hph he hst hs ha hi =>
  rw [take_idle hi.loading]
  have e0 : rNext K s g = ({ s with ph := 12 }, ((0 : Int), (0 : Int), zW)) := by unfold rNext; simp [hph]
  rw [e0]
  exact ⟨0, _, .done _ ha hi.loads (by omega), .p12 rfl rfl⟩
 | p12 hph he => exact absurd hph h12
end Go.Proofs.YtdpbcfjfnclpiaaDoor
