/- Package help's Next over a stack of helps: a kind of code. -/
import Derived.Test.YtiacdohaiidehaaGreatDoorPk44
namespace Go.Proofs.YtiacdohaiidehaaGreatDoor
set_option linter.unusedSimpArgs false
set_option linter.unusedVariables false
open Go.RowKit
def LvR (t c b : Int) (dur : Bool) (w : World) (P : Nat → Prop) (h : Hr) (d : Hd) (inn : Value) : Prop :=
 ∃ X : HX, h = hR X d ∧ X.t = t ∧ X.c = c ∧ X.b = b ∧ X.dur = dur ∧ X.inn = inn ∧ X.One ∧ Sp w P 3 wdE X.ws d.ws ∧ Sp w P 6 enE X.es d.es
def HhR (t c b : Int) (dur : Bool) (w : World) (P : Nat → Prop) : List Hd → Hr → Prop
 | [], _ => False
 | [d], h => LvR t c b dur w P h d .nilIface ∧ HdTo t c b d
 | d :: r :: rs, h => ∃ h', h'.One ∧ LvR t c b dur w P h d (.iface hpT (.agg (hL h').toArray)) ∧ d.ended = false ∧ HdOk t c b d ∧ d.nx = 7 ∧ HhR t c b dur w P (r :: rs) h'
section
variable {t c b : Int} {dur : Bool} {w w' : World} {P P' : Nat → Prop} {h : Hr} {d : Hd} {inn : Value}
theorem LvR.agp (k : LvR t c b dur w P h d inn) (g : AgP P w w') : LvR t c b dur w' P h d inn := by
 obtain ⟨X, a1, a2, a3, a4, a5, a6, a7, a8, a9⟩ := k
 exact ⟨X, a1, a2, a3, a4, a5, a6, a7, a8.agp g, a9.agp g⟩
theorem LvR.imp (k : LvR t c b dur w P h d inn) (g : ∀ b, P b → P' b) : LvR t c b dur w P' h d inn := by
 obtain ⟨X, a1, a2, a3, a4, a5, a6, a7, a8, a9⟩ := k
 exact ⟨X, a1, a2, a3, a4, a5, a6, a7, a8.imp g, a9.imp g⟩
theorem LvR.bnd (k : LvR t c b dur w P h d inn) : LvR t c b dur w (fun b => P b ∧ b < w.heap.size) h d inn := by
 obtain ⟨X, a1, a2, a3, a4, a5, a6, a7, a8, a9⟩ := k
 exact ⟨X, a1, a2, a3, a4, a5, a6, a7, a8.bnd, a9.bnd⟩
theorem LvR.one (k : LvR t c b dur w P h d inn) : h.One := by
 obtain ⟨X, rfl, _, _, _, _, _, a7, _⟩ := k
 exact hR_one a7 d
theorem HhR.agp (g : AgP P w w') : ∀ (S : List Hd) (h : Hr), HhR t c b dur w P S h → HhR t c b dur w' P S h
 | [], _, k => k
 | [_], _, k => ⟨k.1.agp g, k.2⟩
 | _ :: r :: rs, _, k => by
  obtain ⟨h', k1, k2, k3, k4, k5, k6⟩ := k
  exact ⟨h', k1, k2.agp g, k3, k4, k5, HhR.agp g (r :: rs) h' k6⟩
theorem HhR.imp (g : ∀ b, P b → P' b) : ∀ (S : List Hd) (h : Hr), HhR t c b dur w P S h → HhR t c b dur w P' S h
 | [], _, k => k
 | [_], _, k => ⟨k.1.imp g, k.2⟩
 | _ :: r :: rs, _, k => by
  obtain ⟨h', k1, k2, k3, k4, k5, k6⟩ := k
  exact ⟨h', k1, k2.imp g, k3, k4, k5, HhR.imp g (r :: rs) h' k6⟩
theorem HhR.bnd : ∀ (S : List Hd) (h : Hr), HhR t c b dur w P S h → HhR t c b dur w (fun b => P b ∧ b < w.heap.size) S h
 | [], _, k => k
 | [_], _, k => ⟨k.1.bnd, k.2⟩
 | _ :: r :: rs, _, k => by
  obtain ⟨h', k1, k2, k3, k4, k5, k6⟩ := k
  exact ⟨h', k1, k2.bnd, k3, k4, k5, HhR.bnd (r :: rs) h' k6⟩
theorem HhR.one : ∀ (S : List Hd) (h : Hr), HhR t c b dur w P S h → h.One
 | [], _, k => k.elim
 | [_], _, k => k.1.one
 | _ :: _ :: _, _, k => by
  obtain ⟨_, _, k2, _⟩ := k
  exact k2.one
end
abbrev StR (t c b : Int) (dur : Bool) (o : HpO) : World → (Nat → Prop) → Hr → A8 → Bool → Prop := fun w P h a dn => HhR t c b dur w P o.1 h ∧ a = o.2.1 ∧ dn = o.2.2
theorem stR_st (t c b : Int) (dur : Bool) (o : HpO) : RSt (StR t c b dur o) := ⟨fun h g => ⟨HhR.agp g _ _ h.1, h.2⟩, fun h g => ⟨HhR.imp g _ _ h.1, h.2⟩⟩
theorem lone_out {t c b : Int} {dur : Bool} {w V w' : World} {P : Nat → Prop} {X : HX} {d d' : Hd} (h1 : X.t = t) (h2 : X.c = c) (h3 : X.b = b) (h4 : X.dur = dur) (hn : X.inn = .nilIface) (ho : X.One) (hw : Sp w P 3 wdE X.ws d.ws) (he : Sp w P 6 enE X.es d.es)
 (hE : Ext w w') (e1 : d'.ws = d.ws) (e2 : d'.es = d.es) (hT : HdTo t c b d') : HhR t c b dur w' (fun b => P b ∨ V.heap.size ≤ b) [d'] (hR X d') := by
 refine ⟨⟨X, rfl, h1, h2, h3, h4, hn, ho, ?_, ?_⟩, hT⟩
 ·rw [e1]; exact (hw.of wdE_len hE).imp (fun b hb => .inl hb)
 ·rw [e2]; exact (he.of enE_len hE).imp (fun b hb => .inl hb)
def KeepWE (o : Hd × A8 × Bool) (d : Hd) : Prop := o.1.ws = d.ws ∧ o.1.es = d.es
section
variable {t c b : Int} {d : Hd}
theorem kw_flushed : KeepWE (hpFlushed d) d := by unfold hpFlushed; split <;> exact ⟨rfl, rfl⟩
theorem kw_flush (p : Nat) : KeepWE (hpFlush d p) d := kw_flushed (d := { d with i := 0, bh := p })
theorem kw_decide (dur : Bool) (v : Int) : KeepWE (hpDecide dur d v) d := by
 unfold hpDecide; split
 ·exact kw_flush (d := { d with vd := v }) 10
 ·exact ⟨rfl, rfl⟩
theorem kw_install (dur : Bool) : KeepWE (hpInstall dur d) d := by
 unfold hpInstall; split
 ·exact kw_decide dur 1
 ·exact ⟨rfl, rfl⟩
theorem kw_release (dur : Bool) : KeepWE (hpRelease dur d) d := by unfold hpRelease; split <;> exact ⟨rfl, rfl⟩
theorem kw_free (dur : Bool) : KeepWE (hpFree dur d) d := by
 unfold hpFree; split
 ·exact ⟨rfl, rfl⟩
 ·split
  ·exact kw_flush 17
  ·exact ⟨rfl, rfl⟩
theorem kw_freed (dur : Bool) : KeepWE (hpFreed dur d) d := kw_free (d := { d with i := d.i + 1 }) dur
theorem kw_known (dur : Bool) (g : Wd) : KeepWE (hpKnown dur d g) d := kw_free (d := { d with vd := if g = (1, d.seq, 0) ∨ g = (2, d.seq, 0) then g.1 else 4, i := 0 }) dur
theorem kw_found (dur : Bool) (g : Wd) : KeepWE (hpFound dur d g) d := by
 unfold hpFound; split
 ·exact ⟨rfl, rfl⟩
 ·exact kw_freed dur
theorem kw_first (g : Wd) : KeepWE (hpFirst d g) d := by unfold hpFirst; split <;> exact ⟨rfl, rfl⟩
theorem kw_load : KeepWE (hpLoad t c b d) d := by unfold hpLoad; split <;> exact ⟨rfl, rfl⟩
theorem kw_counted (g : Wd) : KeepWE (hpCounted t c b d g) d := by
 unfold hpCounted; split
 ·exact ⟨rfl, rfl⟩
 ·exact kw_load (d := { d with many := g.1 })
theorem kw_installed (dur : Bool) (g : Gt) : KeepWE (hpInstalled t c b dur d g) d := by
 unfold hpInstalled; split
 ·exact kw_install (d := { d with i := d.i + 1 }) dur
 ·split
  ·exact ⟨rfl, rfl⟩
  ·exact kw_decide dur 2
theorem load_es : (hpLoad t c b d).1.es = d.es ∧ (hpLoad t c b d).1.ws = d.ws := ⟨kw_load.2, kw_load.1⟩
theorem checked_ws (dur : Bool) (g : Wd) : (hpChecked t c b dur d g).1.ws = d.ws := by
 unfold hpChecked; split
 ·rfl
 ·cases hu : hpUnpacked t c b d.ws with
  | none => rfl
  | some l =>
   dsimp only
   split
   ·exact (kw_release (d := { d with es := l }) dur).1
   ·exact (kw_install (d := { d with es := l }) dur).1
end
theorem hok7 {t c b : Int} {d : Hd} (h : HdOk t c b d) (hi : d.i < d.es.length) : HdOk t c b { d with nx := 7 } := by
 refine ⟨h.hb.nx 7, ?_, ?_, ?_, ?_, ?_, ?_, ?_, ?_, ?_⟩
 all_goals first | (intro _; exact hi) | (intro hx; exfalso; simp at hx; done) | (show 7 ≤ 17; omega) | (intro hx; exfalso; revert hx; show ¬ _; simp)
theorem new_ok {t c b : Int} {m : Wd} (hm : WdOk m) (hf : (whoN m.2.2).1 ≠ 0 ∧ 0 ≤ (placeN t c b (whoN m.2.2).1).1) : HdB (hpNew t c b m.2.2) := by
 have h2 := hm.2.2
 have hw : (0 ≤ (whoN m.2.2).1 ∧ (whoN m.2.2).1 ≤ 72) ∧ 0 ≤ (whoN m.2.2).2 ∧ (whoN m.2.2).2 ≤ 16777215 := by
  unfold whoN
  split
  ·dsimp only; omega
  ·dsimp only; omega
 have hp := place_bd t c b (whoN m.2.2).1
 exact ⟨⟨hw.2, h2, ⟨hf.2, hp.1.2⟩, hw.1, hp.2, Nat.le_refl _, by simp [hpNew], by simp [hpNew], by simp [hpNew]⟩, (show WdOk (0, 0, 0) from ⟨by decide, by decide, by decide⟩), fun a h => by cases h⟩
section
variable {t c b : Int} {dur : Bool}
theorem hpNext_one {d : Hd} {g : Gt} (he : d.ended = false) (h6 : d.nx ≠ 6) : hpNext t c b dur [d] g = ([(hpOne t c b dur d g).1], (hpOne t c b dur d g).2.1, (hpOne t c b dur d g).2.2) := by
 unfold hpNext
 rw [if_neg (by rw [he]; exact Bool.false_ne_true), if_neg h6]
theorem hpNext_end {d : Hd} {g : Gt} {rest : List Hd} (he : d.ended = true) : hpNext t c b dur (d :: rest) g = (d :: rest, a8Z, true) := by
 unfold hpNext
 rw [if_pos he]
theorem hpn_lone {X : HX} (h1 : X.t = t) (h2 : X.c = c) (h3 : X.b = b) (h4 : X.dur = dur) (hn : X.inn = .nilIface) (ho : X.One) (d : Hd) (hd : HdOk t c b d) (hee : d.ended = false) (h7 : d.nx ≠ 7) (g : Gt) (hg : WdOk g.1) (hk : checkN t c b = 0) (w : World) (hs : Szs w) (P : Nat → Prop) (hP : ∀ b, P b → b < w.heap.size)
 (hw : Sp w P 3 wdE X.ws d.ws) (he : Sp w P 6 enE X.es d.es) :
 Calls Tryz.prog 198 #[.agg (hL (hR X d)).toArray, .agg (gtE g).toArray] w (HnPost P (StR t c b dur (hpNext t c b dur [d] g)) w) := by
 subst h1 h2 h3 h4
 -- a function that leaves the slices
 have go : ∀ (F : FuncId) (o : Hd × A8 × Bool), phV d.nx = .func (.func F) #[] #[] → (∀ args w, (callFunc F args).run Tryz.prog w = .ok (.enter F args) w) → hpNext X.t X.c X.b X.dur [d] g = ([o.1], o.2.1, o.2.2) → o.1.ws = d.ws → o.1.es = d.es → HdTo X.t X.c X.b o.1 →
  (∀ V, Ext w V → Calls Tryz.prog F #[.agg (hL (hR X d)).toArray, .agg (gtE g).toArray] V fun e w' => e = .returned (.tuple #[.agg (hL (hR X o.1)).toArray, .agg (a8E o.2.1).toArray, .bool o.2.2]) ∧ Ext V w') →
  Calls Tryz.prog 198 #[.agg (hL (hR X d)).toArray, .agg (gtE g).toArray] w (HnPost P (StR X.t X.c X.b X.dur (hpNext X.t X.c X.b X.dur [d] g)) w) := by
  intro F o hF hen hN e1 e2 hT hC
  rw [hN]
  refine hpn_go ho d hee g hF hen w P hP (stR_st _ _ _ _ _) (fun V hV => (hC V hV).mono ?_)
  rintro e w' ⟨rfl, hx⟩
  exact ⟨_, _, _, hR_one ho _, rfl, hx, lone_out rfl rfl rfl rfl hn ho hw he (hV.trans hx) e1 e2 hT, rfl, rfl⟩
 obtain ⟨hb, ph, i0, w2, w3, w4, il, fo, b9, v1⟩ := hd
 obtain ⟨k, hk_⟩ : ∃ k, k = d.nx := ⟨_, rfl⟩
 have hone : ∀ q, d.nx = q → q ≠ 6 → ∀ o, hpOne X.t X.c X.b X.dur d g = o → hpNext X.t X.c X.b X.dur [d] g = ([o.1], o.2.1, o.2.2) := by
  intro q hq h6 o hO
  rw [hpNext_one hee (by rw [hq]; exact h6), hO]
 have hu : ∀ q, d.nx = q → ∀ o, (match q with | 0 => hpLook d 1 | 1 => hpFirst d g.1 | 2 => hpCounted X.t X.c X.b d g.1 | 3 => hpLoaded X.t X.c X.b d g.1 | 4 => hpChecked X.t X.c X.b X.dur d g.1 | 5 => hpInstalled X.t X.c X.b X.dur d g | 8 => hpInstall X.dur d | 9 => hpFlushed d | 10 => hpSettle d | 11 => hpRelease X.dur d | 12 => hpAsk d syncA 13 | 13 => hpLook d 14 | 14 => hpKnown X.dur d g.1 | 15 => hpFound X.dur d g.1 | 16 => hpFreed X.dur d | 17 => hpEnd d d.vd | _ => hpRelease X.dur d) = o → hpOne X.t X.c X.b X.dur d g = o := by
  intro q hq o h
  unfold hpOne
  rw [hq]; exact h
 have hSe : ∀ V, Ext w V → Sl V 6 enE X.es d.es := fun V hV => he.1.of enE_len hV
 have hSw : ∀ V, Ext w V → Sl V 3 wdE X.ws d.ws := fun V hV => hw.1.of wdE_len hV
 have hall : d.nx = 0 ∨ d.nx = 1 ∨ d.nx = 2 ∨ d.nx = 3 ∨ d.nx = 4 ∨ d.nx = 5 ∨ d.nx = 6 ∨ d.nx = 8 ∨ d.nx = 9 ∨ d.nx = 10 ∨ d.nx = 11 ∨ d.nx = 12 ∨ d.nx = 13 ∨ d.nx = 14 ∨ d.nx = 15 ∨ d.nx = 16 ∨ d.nx = 17 := by omega
 rcases hall with hx | hx | hx | hx | hx | hx | hx | hx | hx | hx | hx | hx | hx | hx | hx | hx | hx
 ·have hK : KeepWE (hpLook d 1) d := ⟨rfl, rfl⟩
  exact go 29 _ (by rw [hx]; rfl) (fun _ _ => by kernel_rfl) (hone 0 hx (by decide) _ (hu 0 hx _ rfl)) hK.1 hK.2 (to_ask0 hb _ (.inl rfl) (i0 (by omega)) (w2 (by omega))) (fun V hV => hp_begin ho d g V)
 ·have hK : KeepWE _ d := kw_first g.1
  exact go 62 _ (by rw [hx]; rfl) (fun _ _ => by kernel_rfl) (hone 1 hx (by decide) _ (hu 1 hx _ rfl)) hK.1 hK.2 (to_first hb g.1 (i0 (by omega)) (w2 (by omega))) (fun V hV => hp_first ho d hb.n hn g V)
 ·have hK : KeepWE _ d := kw_counted (t := X.t) (c := X.c) (b := X.b) g.1
  exact go 89 _ (by rw [hx]; rfl) (fun _ _ => by kernel_rfl) (hone 2 hx (by decide) _ (hu 2 hx _ rfl)) hK.1 hK.2 (to_counted hb g.1 (i0 (by omega)) (w2 (by omega))) (fun V hV => hp_counted ho d hb.n hn g V (hSw V hV) (hs.of hV))
 ·have hN := hone 3 hx (by decide) (hpLoaded X.t X.c X.b d g.1) (hu 3 hx _ rfl)
  rw [hN]
  have hl := w3 hx
  have hm := hb.n.many
  have hB := hb.wsx g.1 hg (by omega)
  have hT : HdTo X.t X.c X.b (hpLoaded X.t X.c X.b d g.1).1 := to_load hB (i0 (by omega)) (by show (((d.ws ++ [g.1]).length : Nat) : Int) ≤ 3 * d.many; simp; omega) (by show 1 ≤ d.many; omega)
  refine hpn_go ho d hee g (F := 119) (by rw [hx]; rfl) (fun _ _ => by kernel_rfl) w P hP (stR_st _ _ _ _ _) (fun V hV => (hp_loaded ho d g hB.n V (hSw V hV) (hs.of hV)).mono ?_)
  rintro e w' ⟨v', rfl, hxx, hsl, hnb⟩
  have hv1 : v'.oneCell' = true := by obtain ⟨_, _, rfl, _⟩ := hsl; rfl
  have hoX : HX.One { X with ws := v' } := ⟨hv1, ho.es, ho.inn⟩
  refine ⟨_, _, _, hR_one hoX _, rfl, hxx, ⟨⟨{ X with ws := v' }, rfl, rfl, rfl, rfl, rfl, hn, hoX, ?_, ?_⟩, hT⟩, rfl, rfl⟩
  ·rw [show (hpLoaded X.t X.c X.b d g.1).1.ws = d.ws ++ [g.1] from (load_es (d := { d with ws := d.ws ++ [g.1] })).2]
   exact ⟨hsl, fun _ a n c h => .inr (hnb a n c h)⟩
  ·rw [show (hpLoaded X.t X.c X.b d g.1).1.es = d.es from (load_es (d := { d with ws := d.ws ++ [g.1] })).1]
   exact (he.of enE_len (hV.trans hxx)).imp (fun b hb => .inl hb)
 ·have hN := hone 4 hx (by decide) (hpChecked X.t X.c X.b X.dur d g.1) (hu 4 hx _ rfl)
  rw [hN]
  obtain ⟨hl, hm1⟩ := w4 hx
  have hT : HdTo X.t X.c X.b (hpChecked X.t X.c X.b X.dur d g.1).1 := to_checked hb X.dur g.1 (i0 (by omega))
  refine hpn_go ho d hee g (F := 117) (by rw [hx]; rfl) (fun _ _ => by kernel_rfl) w P hP (stR_st _ _ _ _ _) (fun V hV => (hp_checked ho d hb.n (i0 (by omega)) hn ⟨d.many.toNat, by omega⟩ (by intro h; rw [h] at hl; simp at hl; omega) hb.wk g V (hSe V hV) (hSw V hV) (hs.of hV)).mono ?_)
  rintro e w' ⟨v', hv1, rfl, hxx, hsl, hnb⟩
  have hoX : HX.One { X with es := v' } := ⟨ho.ws, hv1, ho.inn⟩
  refine ⟨_, _, _, hR_one hoX _, rfl, hxx, ⟨⟨{ X with es := v' }, rfl, rfl, rfl, rfl, rfl, hn, hoX, ?_, ?_⟩, hT⟩, rfl, rfl⟩
  ·rw [checked_ws]
   exact (hw.of wdE_len (hV.trans hxx)).imp (fun b hb => .inl hb)
  ·refine ⟨hsl, fun hne a n c h => ?_⟩
   rcases hnb with rfl | hnb
   ·exact .inl (he.2 (by
     intro h0
     obtain ⟨a0, c0, hv0, _⟩ := hsl
     obtain ⟨a1, c1, hv1, _⟩ := he.1
     rw [hv0] at hv1
     simp only [Value.slice.injEq] at hv1
     have := hv1.2.1
     rw [h0] at this
     exact hne (List.length_eq_zero_iff.1 (by simpa using this))) a n c h)
   ·exact .inr (hnb a n c h)
 ·have hK : KeepWE _ d := kw_installed (t := X.t) (c := X.c) (b := X.b) X.dur g
  exact go 152 _ (by rw [hx]; rfl) (fun _ _ => by kernel_rfl) (hone 5 hx (by decide) _ (hu 5 hx _ rfl)) hK.1 hK.2 (to_installed hb X.dur g hg (il (by omega))) (fun V hV => hp_installed ho d hb.n (il (by omega)) hn g hg V (hSe V hV) (hs.of hV))
 ·have hN : hpNext X.t X.c X.b X.dur [d] g = if g.1 = (0, d.seq, 0) then ([{ d with nx := 7 }, (hpLook (hpNew X.t X.c X.b d.met.2.2) 1).1], lookA (hpNew X.t X.c X.b d.met.2.2).at_, false) else ([(hpRelease X.dur d).1], (hpRelease X.dur d).2.1, (hpRelease X.dur d).2.2) := by
   unfold hpNext
   rw [if_neg (by rw [hee]; exact Bool.false_ne_true), if_pos hx]
   by_cases hq : g.1 = (0, d.seq, 0)
   ·rw [if_pos hq, if_pos hq]; rfl
   ·rw [if_neg hq, if_neg hq]
  have hil := il (by omega)
  have hf := fo hx
  refine hpn_go ho d hee g (F := 168) (by rw [hx]; rfl) (fun _ _ => by kernel_rfl) w P hP (stR_st _ _ _ _ _) (fun V hV => (hp_again ho d hb.n hil hb.met hk hf g V (hSe V hV) (hs.of hV)).mono ?_)
  rintro e w' ⟨he_, hxx⟩
  rw [hN]
  by_cases hq : g.1 = (0, d.seq, 0)
  ·rw [if_pos hq] at he_ ⊢
   subst he_
   have hoX : HX.One { X with inn := .iface hpT (.agg (hL (hR (⟨X.t, X.c, X.b, X.dur, .slice none 0 0, .slice none 0 0, .nilIface⟩ : HX) (hpLook (hpNew X.t X.c X.b d.met.2.2) 1).1)).toArray) } := ⟨ho.ws, ho.es, rfl⟩
   refine ⟨_, _, _, hR_one hoX _, rfl, hxx, ⟨_, hR_one (x0_one X.t X.c X.b X.dur) _, ⟨_, rfl, rfl, rfl, rfl, rfl, rfl, hoX, (hw.of wdE_len (hV.trans hxx)).imp (fun b hb => .inl hb), (he.of enE_len (hV.trans hxx)).imp (fun b hb => .inl hb)⟩, hee, hok7 ⟨hb, ph, i0, w2, w3, w4, il, fo, b9, v1⟩ hil, rfl, ⟨⟨_, rfl, rfl, rfl, rfl, rfl, rfl, x0_one X.t X.c X.b X.dur, Sp.nil, Sp.nil⟩, to_ask0 (new_ok hb.met hf) _ (.inl rfl) rfl rfl⟩⟩, rfl, rfl⟩
  ·rw [if_neg hq] at he_ ⊢
   subst he_
   exact ⟨_, _, _, hR_one ho _, rfl, hxx, lone_out rfl rfl rfl rfl hn ho hw he (hV.trans hxx) (kw_release X.dur).1 (kw_release X.dur).2 (to_release hb X.dur), rfl, rfl⟩
 ·have hK : KeepWE _ d := kw_install X.dur
  exact go 179 _ (by rw [hx]; rfl) (fun _ _ => by kernel_rfl) (hone 8 hx (by decide) _ (hu 8 hx _ rfl)) hK.1 hK.2 (to_install hb X.dur) (fun V hV => hp_backed ho d hb.n g V (hSe V hV))
 ·have hK : KeepWE _ d := kw_flushed
  exact go 174 _ (by rw [hx]; rfl) (fun _ _ => by kernel_rfl) (hone 9 hx (by decide) _ (hu 9 hx _ rfl)) hK.1 hK.2 (to_flushed hb (b9 hx) (fun h => v1 (.inl ⟨hx, h⟩))) (fun V hV => hp_flushed ho d hb.n (by rcases b9 hx with h | h <;> omega) g V (hSe V hV))
 ·have hK : KeepWE (hpSettle d) d := ⟨rfl, rfl⟩
  exact go 166 _ (by rw [hx]; rfl) (fun _ _ => by kernel_rfl) (hone 10 hx (by decide) _ (hu 10 hx _ rfl)) hK.1 hK.2 (to_settle hb) (fun V hV => hp_settle ho d hb.n (.inl (v1 (.inr hx))) g V)
 ·have hK : KeepWE _ d := kw_release X.dur
  exact go 175 _ (by rw [hx]; rfl) (fun _ _ => by kernel_rfl) (hone 11 hx (by decide) _ (hu 11 hx _ rfl)) hK.1 hK.2 (to_release hb X.dur) (fun V hV => hp_decided ho d g V)
 ·have hK : KeepWE (hpAsk d syncA 13) d := ⟨rfl, rfl⟩
  exact go 146 _ (by rw [hx]; rfl) (fun _ _ => by kernel_rfl) (hone 12 hx (by decide) _ (hu 12 hx _ rfl)) hK.1 hK.2 (to_ask hb _ (by omega)) (fun V hV => hp_statusFlushed ho d g V)
 ·have hK : KeepWE (hpLook d 14) d := ⟨rfl, rfl⟩
  exact go 163 _ (by rw [hx]; rfl) (fun _ _ => by kernel_rfl) (hone 13 hx (by decide) _ (hu 13 hx _ rfl)) hK.1 hK.2 (to_ask hb _ (by omega)) (fun V hV => hp_statusKept ho d g V)
 ·have hK : KeepWE _ d := kw_known X.dur g.1
  exact go 147 _ (by rw [hx]; rfl) (fun _ _ => by kernel_rfl) (hone 14 hx (by decide) _ (hu 14 hx _ rfl)) hK.1 hK.2 (to_known hb X.dur g.1) (fun V hV => hp_known ho d hb.n hn g V (hSe V hV))
 ·have hK : KeepWE _ d := kw_found X.dur g.1
  exact go 172 _ (by rw [hx]; rfl) (fun _ _ => by kernel_rfl) (hone 15 hx (by decide) _ (hu 15 hx _ rfl)) hK.1 hK.2 (to_found hb X.dur g.1 (il (by omega))) (fun V hV => hp_found ho d hb.n (il (by omega)) hn g hg V (hSe V hV))
 ·have hK : KeepWE _ d := kw_freed X.dur
  exact go 178 _ (by rw [hx]; rfl) (fun _ _ => by kernel_rfl) (hone 16 hx (by decide) _ (hu 16 hx _ rfl)) hK.1 hK.2 (to_freed hb X.dur (il (by omega))) (fun V hV => hp_freed ho d hb.n (il (by omega)) hn g V (hSe V hV))
 ·have hK : KeepWE (hpEnd d d.vd) d := ⟨rfl, rfl⟩
  exact go 173 _ (by rw [hx]; rfl) (fun _ _ => by kernel_rfl) (hone 17 hx (by decide) _ (hu 17 hx _ rfl)) hK.1 hK.2 (to_end _) (fun V hV => hp_through ho d hn g V)
theorem hstat {t c b : Int} {dur : Bool} {w : World} {P : Nat → Prop} : ∀ (S : List Hd) (h : Hr), HhR t c b dur w P S h → (if h.ended = true then h.vd else 0) = (hpStat S).1
 | [], _, k => k.elim
 | [d], h, k => by
  obtain ⟨⟨X, rfl, _⟩, _⟩ := k
  unfold hpStat
  dsimp only
  split <;> rfl
 | d :: _ :: _, h, k => by
  obtain ⟨_, _, ⟨X, rfl, _⟩, _⟩ := k
  unfold hpStat
  dsimp only
  split <;> rfl
theorem hp_next (hk : checkN t c b = 0) (g : Gt) (hg : WdOk g.1) : ∀ (S : List Hd) (h : Hr) (w : World) (_ : Szs w) (P : Nat → Prop) (_ : ∀ b, P b → b < w.heap.size) (_ : HhR t c b dur w P S h),
 Calls Tryz.prog 198 #[.agg (hL h).toArray, .agg (gtE g).toArray] w (HnPost P (StR t c b dur (hpNext t c b dur S g)) w) := by
 intro S
 induction S with
 | nil => intro h w hs P hP hh; exact hh.elim
 | cons d rest ih =>
 cases rest with
 | nil =>
  intro h w hs P hP hh
  obtain ⟨⟨X, rfl, h1, h2, h3, h4, hn, ho, hw, he⟩, hT⟩ := hh
  cases hee : d.ended with
  | true =>
   refine (hpn_over ho d hee g w).mono ?_
   rintro e w' ⟨rfl, hx⟩
   rw [hpNext_end hee]
   exact ⟨_, _, _, hR_one ho _, rfl, hx, lone_out h1 h2 h3 h4 hn ho hw he hx rfl rfl hT, rfl, rfl⟩
  | false =>
   rcases hT with hT | ⟨hd, h7⟩
   ·rw [hee] at hT; cases hT
   ·exact hpn_lone h1 h2 h3 h4 hn ho d hd hee h7 g hg hk w hs P hP hw he
 | cons r rs =>
  intro h w hs P hP hh
  obtain ⟨h0, hone, ⟨X, rfl, rfl, rfl, rfl, rfl, hin, ho, hw, he⟩, hee, hd, h7, hI⟩ := hh
  have hil := hd.il (by omega)
  have hN : hpNext X.t X.c X.b X.dur (d :: r :: rs) g = hpOuter X.dur d (hpNext X.t X.c X.b X.dur (r :: rs) g) := by
   conv => lhs; unfold hpNext
   rw [if_neg (by rw [hee]; exact Bool.false_ne_true)]
  refine hpn_go ho d hee g (F := 176) (by rw [h7]; rfl) (fun _ _ => by kernel_rfl) w P hP (stR_st _ _ _ _ _) (fun V hV => ?_)
  have hPV : ∀ b, P b → b < V.heap.size := fun b hb => Nat.lt_of_lt_of_le (hP b hb) hV.size
  refine (hp_nested ho d hd.hb.n hil h0 hin g V (he.1.of enE_len hV) P hPV (stR_st X.t X.c X.b X.dur (hpNext X.t X.c X.b X.dur (r :: rs) g)) (fun U hU => ?_)).mono ?_
  ·have ih := ih h0 U (hs.of (hV.trans hU)) P (fun b hb => Nat.lt_of_lt_of_le (hPV b hb) hU.size) (HhR.agp (KpB.of_ext (hV.trans hU)).agp _ _ hI)
   exact ih
  ·rintro e w' ⟨h', a, dn, hone', hxx, ⟨hR1, hR2, hR3⟩, hcs⟩
   have hst := hstat _ _ hR1
   rw [hN]
   obtain ⟨o, ho_⟩ : ∃ o, o = hpNext X.t X.c X.b X.dur (r :: rs) g := ⟨_, rfl⟩
   rw [← ho_] at hR1 hR2 hR3 hst ⊢
   clear ho_
   have hwx := (hw.of wdE_len (hV.trans hxx)).imp (P' := fun b => P b ∨ V.heap.size ≤ b) (fun b hb => .inl hb)
   have hex := (he.of enE_len (hV.trans hxx)).imp (P' := fun b => P b ∨ V.heap.size ≤ b) (fun b hb => .inl hb)
   rcases hcs with ⟨hdn, rfl⟩ | ⟨hdn, h4, rfl⟩ | ⟨hdn, h4, rfl⟩
   ·rw [hdn] at hR3
    have hO : hpOuter X.dur d o = ({ d with nx := 7 } :: o.1, o.2.1, false) := by unfold hpOuter; rw [if_pos hR3.symm]
    rw [hO]
    obtain ⟨S', a', n'⟩ := o
    dsimp only at hR1 hR2 ⊢
    cases S' with
    | nil => exact hR1.elim
    | cons r' rs' =>
     have hoX : HX.One { X with inn := .iface hpT (.agg (hL h').toArray) } := ⟨ho.ws, ho.es, rfl⟩
     subst hR2
     exact ⟨_, _, _, hR_one hoX _, rfl, hxx, ⟨h', hone', ⟨_, rfl, rfl, rfl, rfl, rfl, rfl, hoX, hwx, hex⟩, hee, hok7 hd hil, rfl, hR1⟩, rfl, rfl⟩
   ·rw [hdn] at hR3
    have hO : hpOuter X.dur d o = ([(hpAsk d (swapA d.cur.loc d.met (d.met.1, d.met.2.1, 0)) 8).1], (hpAsk d (swapA d.cur.loc d.met (d.met.1, d.met.2.1, 0)) 8).2.1, (hpAsk d (swapA d.cur.loc d.met (d.met.1, d.met.2.1, 0)) 8).2.2) := by
     unfold hpOuter; rw [if_neg (by rw [← hR3]; decide), if_pos (by rw [← hst]; exact h4)]
    rw [hO]
    have hoX : HX.One { X with inn := .nilIface } := ⟨ho.ws, ho.es, rfl⟩
    exact ⟨_, _, _, hR_one hoX _, rfl, hxx, ⟨⟨_, rfl, rfl, rfl, rfl, rfl, rfl, hoX, hwx, hex⟩, to_askI hd.hb _ (by omega) hil⟩, rfl, rfl⟩
   ·rw [hdn] at hR3
    have hO : hpOuter X.dur d o = ([(hpInstall X.dur d).1], (hpInstall X.dur d).2.1, (hpInstall X.dur d).2.2) := by
     unfold hpOuter; rw [if_neg (by rw [← hR3]; decide), if_neg (by rw [← hst]; exact h4)]
    rw [hO]
    have hoX : HX.One { X with inn := .nilIface } := ⟨ho.ws, ho.es, rfl⟩
    refine ⟨_, _, _, hR_one hoX _, rfl, hxx, ⟨⟨_, rfl, rfl, rfl, rfl, rfl, rfl, hoX, ?_, ?_⟩, to_install hd.hb X.dur⟩, rfl, rfl⟩
    ·rw [(kw_install X.dur).1]; exact hwx
    ·rw [(kw_install X.dur).2]; exact hex
end
end Go.Proofs.YtiacdohaiidehaaGreatDoor
