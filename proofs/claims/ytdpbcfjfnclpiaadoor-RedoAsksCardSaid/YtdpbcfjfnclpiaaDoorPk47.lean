/- The layout of RedoAsks: what the code's walk and the reference's walk ask of it; redo.New and Finished in full. The recovery code as a task's code; Finished of any of its states. Plain: what a step of the recovery code keeps (at the layout of RedoAsks). Acts compared. -/
import Derived.Test.YtdpbcfjfnclpiaaDoorPk31
import Derived.Test.YtdpbcfjfnclpiaaDoorPk44
import Derived.Test.YtdpbcfjfnclpiaaDoorPk46
import Derived.Test.YtdpbcfjfnclpiaaDoorPk29
namespace Go.Proofs.YtdpbcfjfnclpiaaDoor
set_option linter.unusedSimpArgs false
set_option linter.unusedVariables false
open Go.RowKit
set_option maxRecDepth 100000
def K131 : RK := ⟨maysL 1 3 1, statsL 1 3 1, ownsL 1 3 1, placeN 1 3 1, fun w p => (logicN 1 3 1 w p).1, 176⟩
theorem from131_4 : fromN 1 3 1 4 = 32 := by kernel_rfl
theorem from131_6 : fromN 1 3 1 6 = 144 := by kernel_rfl
theorem check131 : checkN 1 3 1 = 0 := by kernel_rfl
theorem many131_4 : manyN 1 3 1 4 = 1 := by kernel_rfl
theorem many131_6 : manyN 1 3 1 6 = 1 := by kernel_rfl
theorem at131_4 (i : Int) : atN 1 3 1 4 i 0 = if 0 ≤ i ∧ i < 1 then 32 + i * 104 else -1 := by
 unfold atN
 rw [right131, many131_4, from131_4]
 simp [szN]
theorem at131_6 (i : Int) : atN 1 3 1 6 i 0 = if 0 ≤ i ∧ i < 1 then 144 + i * 32 else -1 := by
 unfold atN
 rw [right131, many131_6, from131_6]
 simp [szN]
theorem place131 (who : Int) : (placeN 1 3 1 who = (-1, 0)) ∨ (placeN 1 3 1 who = (32, 32)) ∨ (placeN 1 3 1 who = (144, 10)) := by
 unfold placeN
 dsimp only
 split
 ·rename_i h
  rw [at131_6]
  split
  ·rename_i h2
   rw [if_neg (by omega)]
   right; right
   rw [show who - 9 = 0 by omega]; rfl
  ·left; rw [if_pos (by omega)]
 ·rw [at131_4]
  split
  ·rename_i h2
   rw [if_neg (by omega)]
   right; left
   rw [show wrap64 (who - 1) = 0 by omega]; rfl
  ·left; rw [if_pos (by omega)]
theorem kat131 : KAt K131 1 3 1 176 where
 place := fun _ => rfl
 lg := fun _ _ => rfl
 ksz := rfl
 size := size131
 le := by omega
 pb := fun who => by rcases place131 who with h | h | h <;> rw [h] <;> decide
theorem mays131_lt : ∀ p ∈ maysL 1 3 1, p < 32 := by
 have h : (maysL 1 3 1).all (fun p => decide (p < 32)) = true := by kernel_rfl
 intro p hp
 have := List.all_eq_true.1 h p hp
 simpa using this
theorem kok131 : KOk K131 where
 low := fun p hp who h => by
  have h1 := mays131_lt p hp
  change 0 ≤ (placeN 1 3 1 who).1 at h
  change p < (placeN 1 3 1 who).1.toNat
  rcases place131 who with h2 | h2 | h2 <;> rw [h2] at h ⊢
  ·exact absurd h (by decide)
  ·show p < 32; omega
  ·show p < 144; omega
 room := fun who => by
  change (0 ≤ (placeN 1 3 1 who).1 ↔ (placeN 1 3 1 who).2 ≠ 0) ∧ 0 ≤ (placeN 1 3 1 who).2
  rcases place131 who with h2 | h2 | h2 <;> rw [h2] <;> decide
theorem rplace131 (who : Int) (h0 : 0 ≤ who) (h1 : who ≤ 72) : placeN 1 3 1 who = rplaceN 1 1 32 144 who := by
 have h : (List.range 73).all (fun k => decide (placeN 1 3 1 (k : Int) = rplaceN 1 1 32 144 (k : Int))) = true := by kernel_rfl
 obtain ⟨k, rfl⟩ := Int.eq_ofNat_of_zero_le h0
 have := List.all_eq_true.1 h k (List.mem_range.2 (by omega))
 simpa using this
theorem room131 (who : Int) (h : ¬ (rplaceN 1 1 32 144 who).1 < 0) : (rplaceN 1 1 32 144 who).1 ≤ 30000 ∧ (0 ≤ (rplaceN 1 1 32 144 who).2 ∧ (rplaceN 1 1 32 144 who).2 ≤ 32) ∧ (rplaceN 1 1 32 144 who).1 + 2 + 3 * (rplaceN 1 1 32 144 who).2 ≤ ((176 : Nat) : Int) := by
 unfold rplaceN at h ⊢
 split
 ·dsimp only; omega
 ·split
  ·dsimp only; omega
  ·rename_i h1 h2
   rw [if_neg h1, if_neg h2] at h
   exact absurd h (by decide)
theorem plok131 : PlOk K131 176 1 1 32 144 (mayL 1 3 1 176) where
 hT := by omega
 hB := by omega
 hsl := by omega
 hrm := by omega
 sz := rfl
 le := by omega
 place := rplace131
 room := fun who _ _ h => room131 who h
 lg := fun L p x hl hok hp hx => by
  have hm := (maysL_lt (t := 1) (c := 3) (b := 1) hp).1
  have hxo := (hok x (List.mem_of_getElem? hx)).2.2
  change rlogW _ x p = (logicN 1 3 1 L p).1
  unfold logicN
  rw [if_neg (by rintro (h | h); exact h check131; rw [hl, size131] at h; omega), if_neg (by rw [hm]; simp), Int.toNat_natCast, hx]
  dsimp only
  rw [← rlog_law (t := 1) (c := 3) (b := 1) (l := L) (by omega) (by omega) x hxo p]
  refine rlog_same ?_
  exact rread_law (T := 1) (C := 3) (B := 1) (sl := 32) (rm := 144) (sz := 176) right131 (by omega) from131_4.symm (by rw [if_pos (by omega)]; exact from131_6.symm) size131.symm L hl (x.2.2 / 16777216) (by omega) (by omega)
 low := fun p hp => by have := mays131_lt p hp; omega
def c0 (t c b : Int) : CS := ⟨maysL t c b, statsL t c b, ownsL t c b, 0, 0, [], [], [], [], false, false⟩
theorem sq_of_own {α : Type} {enc : α → List Value} {base lo : Nat} {e : TypeId} {size : Nat} {l : List α} {w w' : World} {a : Option Addr} {n c : Nat} (henc : ∀ x, (enc x).length = size) (h : Own w base e size enc (.slice a n c) l) (he : Ext w w') (hb : lo ≤ base) :
 Sq w' (fun k => lo ≤ k ∧ k < w'.heap.size) size enc (.slice a n c) l :=
 ⟨(Sl.of_own henc h).of henc he, fun _ d m k hv => by
   simp only [Value.slice.injEq] at hv
   have h1 := Own.blocks h d hv.1
   exact ⟨Nat.le_trans hb h1.1, Nat.lt_of_lt_of_le h1.2 he.size⟩⟩
theorem sq_nil {α : Type} {enc : α → List Value} {size : Nat} {w : World} {P : Nat → Prop} : Sq w P size enc (.slice none 0 0) ([] : List α) := ⟨Sl.nil, fun h => absurd rfl h⟩
set_option maxHeartbeats 1000000 in
theorem rnew_full (t c b : Int) (h1 : checkN t c b = 0) (w0 w : World) (hw : Ext w0 w) (hs : Szs w) :
 Calls Tryd.prog 6 #[.agg #[.int .i64 t, .int .i64 c, .int .i64 b]] w fun y w' => ∃ cv, y = .returned (.tuple #[.iface 81 cv, .int .i64 0]) ∧ Ext w w' ∧ Cw t c b w' cv (c0 t c b) (fun k => w.heap.size ≤ k ∧ k < w'.heap.size) := by
 have HS := hid hs
 have H1 := hid h1
 have HRt := hid (show rightN t c b = true by unfold rightN; rw [h1]; rfl)
 have hcon : Tryd.prog.concrete 81 = true := by kernel_rfl
 clear h1 hs
 go_enter Tryd.func6, Tryd.ntmps6
 go_wp2_with fail
 refine (check_any t c b _ (HS.out.of (by (show Ext _ _; repeat first | (with_reducible first | (refine xH ?_; assumption) | exact xR _ | refine xX ?_ _ | refine xA ?_ _) | refine xD ?_ | refine xN ?_ _ | exact xR _)))).mono ?_
 rintro e w' ⟨rfl, r1, rfl⟩
 rw [H1.out]
 go_upto_region 3 with fail
 generalize hU : ext _ r1 = U
 have HEU := hid (show Ext w U by rw [← hU]; (show Ext _ _; repeat first | (with_reducible first | (refine xH ?_; assumption) | exact xR _ | refine xX ?_ _ | refine xA ?_ _) | refine xD ?_ | refine xN ?_ _ | exact xR _))
 have HBl := hid (show Blk U w.heap.size [.int .i64 t, .int .i64 c, .int .i64 b] by rw [← hU]; (show Blk _ _ _; repeat first | (with_reducible first | (refine xH ?_; assumption) | refine bD ?_ | refine bX ?_ _) | (with_reducible refine bN _ _ rfl ?_; first | with_reducible rfl | (simp; done)) | (with_reducible first | refine bA ?_ _ | assumption | apply bS) | (with_reducible refine bO ?_ ?_; first | omega | (simp; omega)) | (show List.set _ _ _ = _; exact rfl) | (show _ < List.length _; simp; done)))
 clear hU
 refine wp_region_held_drew (S := fun w' => w'.cell? ⟨w.heap.size, 0, none⟩ = some (.int .i64 t) ∧ w'.cell? ⟨w.heap.size, 1, none⟩ = some (.int .i64 c) ∧ w'.cell? ⟨w.heap.size, 2, none⟩ = some (.int .i64 b)) (by kernel_rfl) (by exact (HBl.out.of (show Ext U _ by (show Ext _ _; repeat with_reducible first | (refine xH ?_; assumption) | exact xR _ | refine xX ?_ _ | refine xA ?_ _ | refine xD ?_ | refine xS ?_ (by (try dsimp only); first | omega | (simp; done) | (simp; omega)) _))).three) (fun hHeld => ?_)
 refine take_met 0 (oi := ⟨_, _, _, _, _, _⟩) (v := ?_) (by kernel_rfl) rfl (by rfl) (fun _ _ _ h => h) (by assumption) ?_ ?_
 rotate_left 1
 ·intro w hSw
  try dsimp only at hSw
  go_simp
  try with_reducible rfl
 (try simp only [Act.put, pA, pB, pC])
 refine take_met 1 (oi := ⟨_, _, _, _, _, _⟩) (v := ?_) (by kernel_rfl) rfl (by rfl) (fun _ _ _ h => h) (by assumption) ?_ ?_
 rotate_left 1
 ·intro w hSw
  try dsimp only at hSw
  go_simp
  try with_reducible rfl
 (try simp only [Act.put, pA, pB, pC])
 refine take_met 3 (oi := ⟨_, _, _, _, _, _⟩) (v := ?_) (by kernel_rfl) rfl (by rfl) (fun _ _ _ h => h) (by assumption) ?_ ?_
 rotate_left 1
 ·intro w hSw
  try dsimp only at hSw
  go_simp
  try with_reducible rfl
 (try simp only [Act.put, pA, pB, pC])
 refine take_met 5 (oi := ⟨_, _, _, _, _, _⟩) (v := ?_) (by kernel_rfl) rfl (by rfl) (fun _ _ _ h => h) (by assumption) ?_ ?_
 rotate_left 1
 ·intro w hSw
  try dsimp only at hSw
  go_simp
  try with_reducible rfl
 (try simp only [Act.put, pA, pB, pC])
 refine take_only 2 (oi := ⟨_, _, _, _, _, _⟩) (by kernel_rfl) rfl (fun K hK => ?_)
 go_simp
 first
  | (go_at_call 26; refine (may25_any t c b _ (HS.out.of (HEU.out.trans (by (show Ext _ _; repeat first | (with_reducible first | (refine xH ?_; assumption) | exact xR _ | refine xX ?_ _ | refine xA ?_ _) | refine xD ?_ | refine xN ?_ _ | exact xR _))))).mono ?_; rintro e w' ⟨v1, rfl, ⟨r2, rfl⟩, hv1⟩; obtain ⟨a1, c1, rfl⟩ := Own.shape hv1; have HV1 := hid hv1; clear hv1)
 have hOld := hHeld
 clear hHeld
 refine hK.out _ _ (by exact (HBl.out.of (show Ext U _ by (show Ext _ _; repeat with_reducible first | (refine xH ?_; assumption) | exact xR _ | refine xX ?_ _ | refine xA ?_ _ | refine xD ?_ | refine xS ?_ (by (try dsimp only); first | omega | (simp; done) | (simp; omega)) _))).three) (fun hHeld => ?_)
 clear hOld hK K
 (try simp only [Act.put, pA, pB, pC])
 refine take_only 4 (oi := ⟨_, _, _, _, _, _⟩) (by kernel_rfl) rfl (fun K hK => ?_)
 go_simp
 first
  | (go_at_call 27; refine (stats25_any t c b HRt.out _ (HS.out.of (HEU.out.trans (by (show Ext _ _; repeat first | (with_reducible first | (refine xH ?_; assumption) | exact xR _ | refine xX ?_ _ | refine xA ?_ _) | refine xD ?_ | refine xN ?_ _ | exact xR _))))).mono ?_; rintro e w' ⟨v2, rfl, ⟨r3, rfl⟩, hv2⟩; obtain ⟨a2, c2, rfl⟩ := Own.shape hv2; have HV2 := hid hv2; clear hv2)
 have hOld := hHeld
 clear hHeld
 refine hK.out _ _ (by exact (HBl.out.of (show Ext U _ by (show Ext _ _; repeat with_reducible first | (refine xH ?_; assumption) | exact xR _ | refine xX ?_ _ | refine xA ?_ _ | refine xD ?_ | refine xS ?_ (by (try dsimp only); first | omega | (simp; done) | (simp; omega)) _))).three) (fun hHeld => ?_)
 clear hOld hK K
 (try simp only [Act.put, pA, pB, pC])
 refine take_only 6 (oi := ⟨_, _, _, _, _, _⟩) (by kernel_rfl) rfl (fun K hK => ?_)
 go_simp
 first
  | (go_at_call 28; refine (owns25_any t c b HRt.out _ (HS.out.of (HEU.out.trans (by (show Ext _ _; repeat first | (with_reducible first | (refine xH ?_; assumption) | exact xR _ | refine xX ?_ _ | refine xA ?_ _) | refine xD ?_ | refine xN ?_ _ | exact xR _))))).mono ?_; rintro e w' ⟨v3, rfl, ⟨r4, rfl⟩, hv3⟩; obtain ⟨a3, c3, rfl⟩ := Own.shape hv3; have HV3 := hid hv3; clear hv3)
 have hOld := hHeld
 clear hHeld
 refine hK.out _ _ (by exact (HBl.out.of (show Ext U _ by (show Ext _ _; repeat with_reducible first | (refine xH ?_; assumption) | exact xR _ | refine xX ?_ _ | refine xA ?_ _ | refine xD ?_ | refine xS ?_ (by (try dsimp only); first | omega | (simp; done) | (simp; omega)) _))).three) (fun hHeld => ?_)
 clear hOld hK K
 (try simp only [Act.put, pA, pB, pC])
 refine take_met 7 (oi := ⟨_, _, _, _, _, _⟩) (v := ?_) (by kernel_rfl) rfl (by rfl) (fun _ _ _ h => h) (by assumption) ?_ ?_
 rotate_left 1
 ·intro w hSw
  try dsimp only at hSw
  go_simp
  try with_reducible rfl
 (try simp only [Act.put, pA, pB, pC])
 refine take_met 8 (oi := ⟨_, _, _, _, _, _⟩) (v := ?_) (by kernel_rfl) rfl (by rfl) (fun _ _ _ h => h) (by assumption) ?_ ?_
 rotate_left 1
 ·intro w hSw
  try dsimp only at hSw
  go_simp
  try with_reducible rfl
 (try simp only [Act.put, pA, pB, pC])
 refine take_met 9 (oi := ⟨_, _, _, _, _, _⟩) (v := ?_) (by kernel_rfl) rfl (by rfl) (fun _ _ _ h => h) (by assumption) ?_ ?_
 rotate_left 1
 ·intro w hSw
  try dsimp only at hSw
  go_simp
  try with_reducible rfl
 (try simp only [Act.put, pA, pB, pC])
 refine take_met 10 (oi := ⟨_, _, _, _, _, _⟩) (v := ?_) (by kernel_rfl) rfl (by rfl) (fun _ _ _ h => h) (by assumption) ?_ ?_
 rotate_left 1
 ·intro w hSw
  try dsimp only at hSw
  go_simp
  try with_reducible rfl
 (try simp only [Act.put, pA, pB, pC])
 refine wpAnyH_done (by kernel_rfl) ?_ _
 go_wp2_with fail
 go_ret2
 have hw2 := HEU.out.size
 refine ⟨_, rfl, HEU.out.trans (by (show Ext _ _; repeat first | (with_reducible first | (refine xH ?_; assumption) | exact xR _ | refine xX ?_ _ | refine xA ?_ _) | refine xD ?_ | refine xN ?_ _ | exact xR _)), a1, a2, a3, none, none, none, none, c1, c2, c3, 0, 0, 0, 0, ⟨rfl, ?_, ?_, ?_, sq_nil, sq_nil, sq_nil, sq_nil, fun h => ?_⟩⟩
 ·exact sq_of_own locE_len HV1.out (show Ext (ext U r2) _ by (show Ext _ _; repeat first | (with_reducible first | (refine xH ?_; assumption) | exact xR _ | refine xX ?_ _ | refine xA ?_ _) | refine xD ?_ | refine xN ?_ _ | exact xR _)) hw2
 ·exact sq_of_own locE_len HV2.out (by (show Ext _ _; repeat first | (with_reducible first | (refine xH ?_; assumption) | exact xR _ | refine xX ?_ _ | refine xA ?_ _) | refine xD ?_ | refine xN ?_ _ | exact xR _)) (by simp; omega)
 ·exact sq_of_own locE_len HV3.out (by (show Ext _ _; repeat first | (with_reducible first | (refine xH ?_; assumption) | exact xR _ | refine xX ?_ _ | refine xA ?_ _) | refine xD ?_ | refine xN ?_ _ | exact xR _)) (by simp; omega)
 ·rfl
end Go.Proofs.YtdpbcfjfnclpiaaDoor
namespace Go.Proofs.YtdpbcfjfnclpiaaDoor
set_option linter.unusedSimpArgs false
set_option linter.unusedVariables false
open Go.RowKit
def ac8 (a : Ac) : A8 := ⟨a.1, a.2.1, (0, 0, 0), a.2.2⟩
theorem ac8_cells (a : Ac) : a8E (ac8 a) = acE a := rfl
theorem codeT_redo : CodeT 81 95 where
 conc := by kernel_rfl
 finds := fun rv w => by kernel_rfl
 enters := fun args w => by kernel_rfl
theorem Sq.of {α : Type} {size : Nat} {enc : α → List Value} (henc : ∀ x, (enc x).length = size) {w w' : World} {P : Nat → Prop} {v : Value} {l : List α} (h : Sq w P size enc v l) (he : Ext w w') : Sq w' P size enc v l := ⟨h.1.of henc he, h.2⟩
theorem Sq.imp {α : Type} {size : Nat} {enc : α → List Value} {w : World} {P P' : Nat → Prop} {v : Value} {l : List α} (h : Sq w P size enc v l) (hp : ∀ k, P k → P' k) : Sq w P' size enc v l := ⟨h.1, fun hn a n c he => hp _ (h.2 hn a n c he)⟩
theorem Sq.agr {α : Type} {size : Nat} {enc : α → List Value} {w V : World} {Q : Nat → Prop} {hi : Nat} {v : Value} {l : List α} (h : Sq w (fun k => Q k ∨ hi ≤ k) size enc v l) (k : Agr Q hi w V) : Sq V (fun k => Q k ∨ hi ≤ k) size enc v l := ⟨h.1.agr k (fun hn a n c he => h.2 hn a n c he), h.2⟩
theorem Cw.of {t c b : Int} {w w' : World} {v : Value} {s : CS} {P : Nat → Prop} (h : Cw t c b w v s P) (he : Ext w w') : Cw t c b w' v s P := by
 obtain ⟨pa, sa, ta, la, aa, ra, fa, pc, sc, tc, lc, ac, rc, fc, h⟩ := h
 exact ⟨pa, sa, ta, la, aa, ra, fa, pc, sc, tc, lc, ac, rc, fc, h.val, h.pl.of locE_len he, h.sl.of locE_len he, h.th.of locE_len he, h.loads.of locE_len he, h.acts.of acE_len he, h.stored.of locE_len he, h.loaded.of fdE_len he, h.tight⟩
theorem Cw.imp {t c b : Int} {w : World} {v : Value} {s : CS} {P P' : Nat → Prop} (h : Cw t c b w v s P) (hp : ∀ k, P k → P' k) : Cw t c b w v s P' := by
 obtain ⟨pa, sa, ta, la, aa, ra, fa, pc, sc, tc, lc, ac, rc, fc, h⟩ := h
 exact ⟨pa, sa, ta, la, aa, ra, fa, pc, sc, tc, lc, ac, rc, fc, h.val, h.pl.imp hp, h.sl.imp hp, h.th.imp hp, h.loads.imp hp, h.acts.imp hp, h.stored.imp hp, h.loaded.imp hp, h.tight⟩
theorem Cw.agr {t c b : Int} {w V : World} {v : Value} {s : CS} {Q : Nat → Prop} {hi : Nat} (h : Cw t c b w v s (fun k => Q k ∨ hi ≤ k)) (k : Agr Q hi w V) : Cw t c b V v s (fun k => Q k ∨ hi ≤ k) := by
 obtain ⟨pa, sa, ta, la, aa, ra, fa, pc, sc, tc, lc, ac, rc, fc, h⟩ := h
 exact ⟨pa, sa, ta, la, aa, ra, fa, pc, sc, tc, lc, ac, rc, fc, h.val, h.pl.agr k, h.sl.agr k, h.th.agr k, h.loads.agr k, h.acts.agr k, h.stored.agr k, h.loaded.agr k, h.tight⟩
theorem next_ok (K : RK) {t c b : Int} {sz : Nat} (hKA : KAt K t c b sz) {w0 : World} (hs : Szs w0) (Q : Nat → Prop) (s : CS) (cv : Value) (hcv : Cw t c b w0 cv s Q) (x y z : Int) (ok : Bool)
 (hld : s.loading = true → ∃ p r, s.loads = p :: r) (hlen : s.loaded.length ≤ 50000) (hI : CInv sz (cTake s (x, y, z))) (n : Nat) (c' : CS) (a : Ac) (d : Bool) (hsp : Spin K n (cTake s (x, y, z)) c' a d) :
 NextOk 81 95 cv ((x, y, z), ok) w0 Q (fun V cv' a' d' => a' = ac8 a ∧ d' = d ∧ Cw t c b V cv' c' (fun k => Q k ∨ w0.heap.size ≤ k)) := by
 intro W hW
 letI : LoC := ⟨Q⟩
 refine (cnext_any K hKA (hs.of hW) s cv (hcv.of hW) x y z ok hld hlen hI n c' a d hsp).mono ?_
 rintro e w' ⟨cv', rfl, hc, r, rfl⟩
 refine ⟨cv', ac8 a, d, by rw [ac8_cells], ⟨r, rfl⟩, fun V k => ⟨rfl, rfl, (Cw.agr (Q := Q) hc k).imp (fun j h => h.imp id (fun h2 => Nat.le_trans hW.size h2))⟩⟩
theorem assert_redo (v : Value) (w : World) : (Instr.typeAssert (.iface 81 v) 34 81 true).run Tryd.prog w = .ok (.tuple #[v, .bool true]) w := by kernel_rfl
set_option maxHeartbeats 1000000 in
theorem fin_any {t c b : Int} {w : World} {cv : Value} {s : CS} {P : Nat → Prop} (h : Cw t c b w cv s P) :
 Calls Tryd.prog 10 #[.iface 81 cv] w fun y w' => y = .returned (.bool s.ended) ∧ ∃ r, w' = ext w r := by
 obtain ⟨pa, sa, ta, la, aa, ra, fa, pc, sc, tc, lc, ac, rc, fc, h⟩ := h
 have hv := h.val
 clear h
 subst hv
 have has := assert_redo
 go_enter Tryd.func10, Tryd.ntmps10
 go_wp2_with fail
 go_ret
 exact ⟨rfl, by (show Ext _ _; repeat first | (with_reducible first | (refine xH ?_; assumption) | exact xR _ | refine xX ?_ _ | refine xA ?_ _) | refine xD ?_ | refine xN ?_ _ | exact xR _)⟩
end Go.Proofs.YtdpbcfjfnclpiaaDoor
namespace Go.Proofs.YtdpbcfjfnclpiaaDoor
set_option linter.unusedSimpArgs false
set_option linter.unusedVariables false
open Go.RowKit
theorem cFin_loaded (K : RK) (c : CS) (p : Nat) (r : List Nat) : (cFin K c p r).loaded = c.loaded := by unfold cFin; split <;> rfl
theorem cPhase_loaded (K : RK) (c : CS) : (cPhase K c).1.loaded.length ≤ c.loaded.length := by
 unfold cPhase
 split
 ·unfold cPlain
  split
  ·exact Nat.le_refl _
  ·split
   ·exact Nat.zero_le _
   split
   ·split
    ·exact Nat.le_refl _
    ·rw [cFin_loaded]; exact Nat.le_refl _
   split
   ·split
    ·exact Nat.le_refl _
    ·rw [cFin_loaded]; exact Nat.le_refl _
   ·rw [cFin_loaded]; exact Nat.le_refl _
 split
 ·unfold cSettle
  split
  ·exact Nat.le_refl _
  ·split
   ·exact Nat.zero_le _
   ·dsimp only; split <;> exact Nat.le_refl _
 split
 ·unfold cQuiet
  split
  ·exact Nat.le_refl _
  ·split
   ·exact Nat.zero_le _
   ·dsimp only; split <;> exact Nat.le_refl _
 ·exact Nat.le_refl _
theorem spin_inv {K : RK} {sz n : Nat} {c c' : CS} {a : Ac} {d : Bool} (h : Spin K n c c' a d) : CInv sz c → CInv sz c' ∧ c'.loaded.length ≤ c.loaded.length := by
 induction h with
 | act c a r h => exact fun i => ⟨⟨i.some, i.low, i.at_, i.len⟩, Nat.le_refl _⟩
 | load c p r h h2 => exact fun i => ⟨⟨i.some, i.low, i.at_, i.len⟩, Nat.le_refl _⟩
 | done c h h2 h3 => exact fun i => ⟨⟨i.some, i.low, i.at_, i.len⟩, Nat.le_refl _⟩
 | more n c c' a d h h2 h3 hb h4 ih =>
  intro i
  have h1 := ih (cRound_inv (K := K) i h2)
  refine ⟨h1.1, Nat.le_trans h1.2 ?_⟩
  have hp := cPhase_loaded K c
  split
  ·exact hp
  ·exact hp
theorem stats131_lt : ∀ p ∈ statsL 1 3 1, p < 176 := by
 have h : (statsL 1 3 1).all (fun p => decide (p < 176)) = true := by kernel_rfl
 intro p hp
 have := List.all_eq_true.1 h p hp
 simpa using this
theorem owns131_lt : ∀ p ∈ ownsL 1 3 1, p < 176 := by
 have h : (ownsL 1 3 1).all (fun p => decide (p < 176)) = true := by kernel_rfl
 intro p hp
 have := List.all_eq_true.1 h p hp
 simpa using this
theorem rel_loads {c : CS} {s : RS} (h : Rel K131 c s) (h12 : s.ph ≠ 12) (hl : c.loading = true) : ∃ p r, c.loads = p :: r ∧ p < 176 := by
 cases h with
 | p1 p h h0 hs hp hl' h1 h2 hw => exact ⟨p, [], hw.loads, by have := mays131_lt p (List.mem_of_getElem? hp); omega⟩
 | p2 p h h0 hs hp hl' h1 h2 hld hm hw ha hloaded hc =>
  obtain ⟨f, hf⟩ : ∃ f, f = (rPl K131 s).1.toNat := ⟨_, rfl⟩
  have hpl : (rPl K131 s).1.toNat + 2 + 3 * (rPl K131 s).2.toNat ≤ 176 ∧ 1 ≤ (rPl K131 s).2 := by
   have h3 := place131 (whoN s.met.2.2).1
   have e : rPl K131 s = placeN 1 3 1 (whoN s.met.2.2).1 := rfl
   rw [e] at ha ⊢
   rcases h3 with h3 | h3 | h3 <;> rw [h3] at ha ⊢
   ·exact absurd ha (by decide)
   ·decide
   ·decide
  rcases hc with ⟨_, _, h3⟩ | ⟨q, _, h1', h3⟩ | ⟨q, _, _, h4, h5, h3⟩
  ·exact ⟨_, _, h3, by omega⟩
  ·exact ⟨_, _, h3, by omega⟩
  ·obtain ⟨m, hm3⟩ : ∃ m, 2 + 3 * q.1.toNat - s.ld.length = m + 1 := ⟨2 + 3 * q.1.toNat - s.ld.length - 1, by omega⟩
   rw [hm3, List.range_succ_eq_map, List.map_cons] at h3
   exact ⟨_, _, h3, by omega⟩
 | p3 h h0 hs hp _ _ _ hi => rw [hi.loading] at hl; cases hl
 | p4 _ _ _ _ _ _ _ _ _ hi => rw [hi.loading] at hl; cases hl
 | p5 _ _ _ _ _ _ _ _ hi => rw [hi.loading] at hl; cases hl
 | p6 p h h0 hs hp hl' h2 hw => exact ⟨p, [], hw.loads, stats131_lt p (List.mem_of_getElem? hp)⟩
 | p7 _ _ _ _ _ _ hi => rw [hi.loading] at hl; cases hl
 | p8 p h h0 hs hp hl' hw => exact ⟨p, [], hw.loads, owns131_lt p (List.mem_of_getElem? hp)⟩
 | p9 _ _ _ _ _ hi => rw [hi.loading] at hl; cases hl
 | p10 _ _ _ _ _ _ hi => rw [hi.loading] at hl; cases hl
 | p11 _ _ _ _ _ hi => rw [hi.loading] at hl; cases hl
 | p12 h he => exact absurd h h12
theorem take_inv {c : CS} {s : RS} (h : Rel K131 c s) (h12 : s.ph ≠ 12) (hI : CInv 176 c) (hlen : c.loaded.length ≤ 1000) (g : Wd) (hg : WdOk g) : CInv 176 (cTake c g) ∧ (cTake c g).loaded.length ≤ c.loaded.length + 1 := by
 unfold cTake
 split
 ·rename_i hl
  obtain ⟨p, r, hp, hlt⟩ := rel_loads h h12 hl
  refine ⟨⟨fun _ _ => by simp, fun f hf => ?_, hI.at_, by show (c.loaded ++ [_]).length ≤ _; simp; omega⟩, by show (c.loaded ++ [_]).length ≤ _; simp⟩
  rcases List.mem_append.1 hf with h1 | h1
  ·exact hI.low f h1
  ·rw [List.mem_singleton.1 h1, hp]; exact ⟨hlt, hg⟩
 ·exact ⟨hI, Nat.le_succ _⟩
theorem c0_inv : CInv 176 (c0 1 3 1) :=
 ⟨fun _ h => absurd rfl h, fun f hf => (by cases hf), fun p hp => by have := mays131_lt p hp; omega, Nat.zero_le _⟩
theorem Sq.bd {α : Type} {size : Nat} {enc : α → List Value} {w : World} {P : Nat → Prop} {v : Value} {l : List α} (h : Sq w P size enc v l) : Sq w (fun k => P k ∧ k < w.heap.size) size enc v l := by
 refine ⟨h.1, fun hn a n c he => ⟨h.2 hn a n c he, ?_⟩⟩
 obtain ⟨a', c', hv, _, hq⟩ := h.1
 obtain ⟨b, o, hab, hb, _⟩ := hq hn
 rw [he] at hv
 simp only [Value.slice.injEq] at hv
 rw [hab] at hv
 have := hv.1
 simp only [Option.some.injEq] at this
 rw [this]; exact hb
theorem Cw.bd {t c b : Int} {w : World} {v : Value} {s : CS} {P : Nat → Prop} (h : Cw t c b w v s P) : Cw t c b w v s (fun k => P k ∧ k < w.heap.size) := by
 obtain ⟨pa, sa, ta, la, aa, ra, fa, pc, sc, tc, lc, ac, rc, fc, h⟩ := h
 exact ⟨pa, sa, ta, la, aa, ra, fa, pc, sc, tc, lc, ac, rc, fc, h.val, h.pl.bd, h.sl.bd, h.th.bd, h.loads.bd, h.acts.bd, h.stored.bd, h.loaded.bd, h.tight⟩
def NB (b7 b9 k : Nat) : Prop := k ≠ b7 ∧ k ≠ b7 + 1 ∧ k ≠ b9
structure AskR (b7 b9 : Nat) (D : World) (k : Nat) (w : World) (s : RS) (c : CS) (cv nv : Value) (na : A8) (act : Ac) (la sa ga : Option Addr) (lc sc gc : Nat) (gs : List Gt) : Prop where
 ext : Ext D w
 st7 : Blk w b7 (rsL s la sa lc sc)
 at8 : Blk w (b7 + 1) (acE act)
 tk9 : Blk w b9 (tkL (.iface 81 cv) nv na ga k gc)
 hnv : nxV 81 cv (decide (s.ph = 12)) = nv
 hna : (if decide (s.ph = 12) = true then a8Z else ac8 act) = na
 rel : Rel K131 c s
 cw : Cw 1 3 1 w cv c (NB b7 b9)
 ld : Sl w 3 wdE (.slice la s.ld.length lc) s.ld
 st : Sl w 1 locE (.slice sa s.st.length sc) s.st
 lb : ∀ d, la = some d → NB b7 b9 d.block ∧ d.block < w.heap.size
 sb : ∀ d, sa = some d → NB b7 b9 d.block ∧ d.block < w.heap.size
 gsl : Sl w 4 gtE (.slice ga k gc) gs
 gn : gs.length = k ∧ (ga = none → gs = [])
 gb : ∀ d, ga = some d → NB b7 b9 d.block
 inv : CInv 176 c
 len : c.loaded.length ≤ k
 bi : s.i ≤ k + 1
 bs : s.st.length ≤ k + 1
 bl : s.ld.length ≤ k + 1
 ldk : ∀ a ∈ s.ld, WdOk a
 metk : WdOk s.met
end Go.Proofs.YtdpbcfjfnclpiaaDoor
namespace Go.Proofs.YtdpbcfjfnclpiaaDoor
set_option linter.unusedSimpArgs false
set_option linter.unusedVariables false
open Go.RowKit
theorem neq_act_self (p1 p2 p3 p4 p5 p6 p7 p8 : Int) (w : World) : (binOp .neq 46 (.agg #[.int .i64 p1, .int .i64 p2, .int .i64 p3, .int .u32 p4, .int .u32 p5, .int .i64 p6, .int .u32 p7, .int .u32 p8]) (.agg #[.int .i64 p1, .int .i64 p2, .int .i64 p3, .int .u32 p4, .int .u32 p5, .int .i64 p6, .int .u32 p7, .int .u32 p8])).run Tryd.prog w = .ok (.bool false) w := by
 have hp : Tryd.prog.stoodInHeld 46 = false := by kernel_rfl
 have hp2 : Tryd.prog.stoodInHeld 40 = false := by kernel_rfl
 have hw : ∀ (a b c : Int) (w : World), (Op.equalIn 9999 40 (.agg #[.int .i64 a, .int .u32 b, .int .u32 c]) (.agg #[.int .i64 a, .int .u32 b, .int .u32 c])).run Tryd.prog w = .ok true w := by
  intro a b c w
  rw [run_equalIn_struct w 9998 _ _ _ (by kernel_rfl) hp2]
  simp [Op.eqFields, Program.fieldsOf, Tryd.underlying40, go_sem]
 rw [run_neq_struct, run_equalIn_struct w 9999 _ _ _ (by kernel_rfl) hp]
 simp [Op.eqFields, Program.fieldsOf, Tryd.underlying46, go_sem, hw]
theorem eq_guard_act (op : BinOp) (x y : Operand) (xs ys : Array Value) (w : World) : (eqGuard op 46 x y (.agg xs) (.agg ys)).run Tryd.prog w = .ok () w :=
 run_eqGuard_agg w op _ x y xs ys (by kernel_rfl)
end Go.Proofs.YtdpbcfjfnclpiaaDoor
