/- Walk of the reference's Next (simulcastref25), phase 2. -/
import Derived.Test.YtdpbcfjfnclpiaaDoorPk32
namespace Go.Proofs.YtdpbcfjfnclpiaaDoor
set_option linter.unusedSimpArgs false
set_option linter.unusedVariables false
open Go.RowKit
set_option maxRecDepth 100000 in
set_option maxHeartbeats 10000000 in
theorem rn2_any {w : World} {K : RK} {N : Nat} {kv sv : Value} {s : RS} {T B sl rm : Int} {ws : List Bool} {pv : Value} {ma qa oa : Option Addr} {mc qc oc : Nat} (hk : Kw w kv K T B sl rm (N : Int) ws pv ma qa oa mc qc oc) {la sa : Option Addr} {lc sc : Nat} (hs : Rv w sv s la sa lc sc)
 (hP : PlOk K N T B sl rm ws) (hI : RnOk K N s) (x y z : Int) (ok : Bool) (hg : WdOk (x, y, z)) (hph : s.ph = 2) (p : Nat) (hp : K.ms[s.i]? = some p) (hfr : 0 ≤ (rPl K s).1 ∧ 0 < (rPl K s).2 ∧ (s.ld.length : Int) < 2 + 3 * (rPl K s).2) :
 Calls Tryd.prog 7 #[kv, sv, .agg #[.int .i64 x, .int .u32 y, .int .u32 z, .bool ok]] w (RPost w la sa (rNext K s (x, y, z))) := by
 have HK := hid hk
 have HS := hid hs
 have HPl := hid hP
 have HI := hid hI
 have HGk := hid hg
 have hkv := hk.val
 have hsv := hs.val
 clear hk hs hP hI hg
 subst hkv hsv
 have hzb := HI.out.metk.2.2
 obtain ⟨hz1, hz2⟩ := hzb
 have HPp := hid hp
 obtain ⟨wh, hwh⟩ : ∃ wh, wh = (whoN s.met.2.2).1 := ⟨_, rfl⟩
 obtain ⟨f', hf'⟩ : ∃ f', f' = (rplaceN T B sl rm wh).1 := ⟨_, rfl⟩
 obtain ⟨mo, hmo⟩ : ∃ mo, mo = (rplaceN T B sl rm wh).2 := ⟨_, rfl⟩
 have hpl : rPl K s = (f', mo) := by show K.place (whoN s.met.2.2).1 = _; rw [HPl.out.place _ (whoN_bd _).1 (whoN_bd _).2, ← hwh, hf', hmo]
 rw [hpl] at hfr
 dsimp only at hfr
 have hroom := HPl.out.room wh (by rw [hwh]; have := whoN_bd s.met.2.2; omega) (by rw [hwh]; have := whoN_bd s.met.2.2; omega)
 rw [← hf', ← hmo] at hroom
 have hroom := hroom (by omega)
 have HRm := hid hroom
 have HFr := hid hfr
 obtain ⟨ld', hld'⟩ : ∃ l, l = s.ld ++ [(x, y, z)] := ⟨_, rfl⟩
 have hDl : ld'.length = s.ld.length + 1 := by rw [hld', List.length_append]; rfl
 have hpl2 : rPl K { s with ld := ld' } = (f', mo) := hpl
 have HRA := hid (show ld'.length < rMany K { s with ld := ld' } → rNext K s (x, y, z) = ({ s with ld := ld' }, ((1 : Int), f' + (ld'.length : Int), zW)) from fun h => by unfold rNext; rw [if_neg (by omega), if_neg (by omega), if_pos hph]; dsimp only; rw [← hld', if_pos h, hpl2])
 have HRB := hid (show ¬ ld'.length < rMany K { s with ld := ld' } → rNext K s (x, y, z) = rPlain K { s with ld := ld' } from fun h => by unfold rNext; rw [if_neg (by omega), if_neg (by omega), if_pos hph]; dsimp only; rw [← hld', if_neg h])
 have HMn := hid (show rMany K { s with ld := ld' } = match ld'[1]? with | some v => if 1 ≤ v.1 ∧ v.1 ≤ mo then 2 + 3 * v.1.toNat else 2 | none => 2 from by unfold rMany; rw [hpl2]; rfl)
 have HFit := hid (show 0 < mo → 0 ≤ f' ∧ f'.toNat + ld'.length ≤ N from fun h => by omega)
 have HDl := hid hDl
 have HLd' := hid hld'
 have HLk := hid (show ∀ a ∈ ld', WdOk a from by rw [hld']; intro a ha; rcases List.mem_append.1 ha with h | h; exact HI.out.ldk a h; rw [List.mem_singleton.1 h]; exact HGk.out)
 have hlb := HI.out.ld
 have HLb := hid (show ld'.length ≤ 1001 by omega)
 clear hp hfr hroom hpl hpl2 hld' hDl hlb
 have HWh := hid hwh
 have HF := hid hf'
 have HMo := hid hmo
 clear hwh hf' hmo
 go_enter Tryd.func7, Tryd.ntmps7
 go_upto_region 1 with fail
 generalize hU : World.alloc _ _ = U
 have HEU := hid (show Ext w U by rw [← hU]; (show Ext _ _; repeat first | (with_reducible first | (refine xH ?_; assumption) | exact xR _ | refine xX ?_ _ | refine xA ?_ _) | refine xD ?_ | refine xN ?_ _ | exact xR _))
 have HB3 := hid (show Blk U w.heap.size (kdL T B sl rm (N : Int) pv K.ms.length K.ss.length K.os.length ma qa oa mc qc oc) by rw [← hU]; (show Blk _ _ _; repeat first | (with_reducible first | (refine xH ?_; assumption) | refine bD ?_ | refine bX ?_ _) | (with_reducible refine bN _ _ rfl ?_; first | with_reducible rfl | (simp; done)) | (with_reducible first | refine bA ?_ _ | assumption | apply bS) | (with_reducible refine bO ?_ ?_; first | omega | (simp; omega)) | (show List.set _ _ _ = _; exact rfl) | (show _ < List.length _; simp; done)))
 have HB4 := hid (show Blk U (w.heap.size + 1) (rsL s la sa lc sc) by rw [← hU]; (show Blk _ _ _; repeat first | (with_reducible first | (refine xH ?_; assumption) | refine bD ?_ | refine bX ?_ _) | (with_reducible refine bN _ _ rfl ?_; first | with_reducible rfl | (simp; done)) | (with_reducible first | refine bA ?_ _ | assumption | apply bS) | (with_reducible refine bO ?_ ?_; first | omega | (simp; omega)) | (show List.set _ _ _ = _; exact rfl) | (show _ < List.length _; simp; done)))
 have HB2 := hid (show Blk U (w.heap.size + 1 + 1) [.int .i64 x, .int .u32 y, .int .u32 z, .bool ok] by rw [← hU]; (show Blk _ _ _; repeat first | (with_reducible first | (refine xH ?_; assumption) | refine bD ?_ | refine bX ?_ _) | (with_reducible refine bN _ _ rfl ?_; first | with_reducible rfl | (simp; done)) | (with_reducible first | refine bA ?_ _ | assumption | apply bS) | (with_reducible refine bO ?_ ?_; first | omega | (simp; omega)) | (show List.set _ _ _ = _; exact rfl) | (show _ < List.length _; simp; done)))
 have HB5 := hid (show Blk U (w.heap.size + 1 + 1 + 1) [.int .i64 0, .int .i64 0, .int .i64 0, .int .i64 0, .int .u32 0, .int .u32 0, .slice none 0 0, .slice none 0 0] by rw [← hU]; (show Blk _ _ _; repeat first | (with_reducible first | (refine xH ?_; assumption) | refine bD ?_ | refine bX ?_ _) | (with_reducible refine bN _ _ rfl ?_; first | with_reducible rfl | (simp; done)) | (with_reducible first | refine bA ?_ _ | assumption | apply bS) | (with_reducible refine bO ?_ ?_; first | omega | (simp; omega)) | (show List.set _ _ _ = _; exact rfl) | (show _ < List.length _; simp; done)))
 have HB6 := hid (show Blk U (w.heap.size + 1 + 1 + 1 + 1) [.int .i64 0, .int .i64 0, .int .i64 0, .int .u32 0, .int .u32 0, .int .i64 0, .int .u32 0, .int .u32 0] by rw [← hU]; (show Blk _ _ _; repeat first | (with_reducible first | (refine xH ?_; assumption) | refine bD ?_ | refine bX ?_ _) | (with_reducible refine bN _ _ rfl ?_; first | with_reducible rfl | (simp; done)) | (with_reducible first | refine bA ?_ _ | assumption | apply bS) | (with_reducible refine bO ?_ ?_; first | omega | (simp; omega)) | (show List.set _ _ _ = _; exact rfl) | (show _ < List.length _; simp; done)))
 clear hU
 obtain ⟨g, hgg⟩ : ∃ g, g = w.heap.size := ⟨_, rfl⟩
 have HGw := hid (show w.heap.size = g from hgg.symm)
 rw [← hgg] at HB2 HB3 HB4 HB5 HB6
 simp only [← hgg]
 have hwg : w.heap.size ≤ g := by omega
 clear hgg
 have HSU := hid (show Rv U (.agg (rsL s la sa lc sc).toArray) s la sa lc sc from HS.out.of HEU.out)
 have k0 := HB4.out.2.2 0 _ rfl
 have k1 := HB4.out.2.2 1 _ rfl
 have k2 := HB4.out.2.2 2 _ rfl
 have k3 := HB4.out.2.2 3 _ rfl
 have k4 := HB4.out.2.2 4 _ rfl
 have k5 := HB4.out.2.2 5 _ rfl
 have k6 := HB4.out.2.2 6 _ rfl
 have k7 := HB4.out.2.2 7 _ rfl
 have kg := HB4.out.1
 have kf := HB4.out.2.1
 have d0 := HB3.out.2.2 0 _ rfl
 have d1 := HB3.out.2.2 1 _ rfl
 have d2 := HB3.out.2.2 2 _ rfl
 have d3 := HB3.out.2.2 3 _ rfl
 have d4 := HB3.out.2.2 4 _ rfl
 have d5 := HB3.out.2.2 5 _ rfl
 have d6 := HB3.out.2.2 6 _ rfl
 have d7 := HB3.out.2.2 7 _ rfl
 have d8 := HB3.out.2.2 8 _ rfl
 have d9 := HB3.out.2.2 9 _ rfl
 have d10 := HB3.out.2.2 10 _ rfl
 have dg := HB3.out.1
 obtain ⟨h0, h1, h2, h3⟩ := HB2.out.four
 have hgt := HB2.out.1
 rw [hph] at k0
 have HPh := hid hph
 clear hph
 go_upto_region 16 with fail
 obtain ⟨Z, hZ⟩ : ∃ Z, U = Z := ⟨_, rfl⟩
 rw [hZ]
 have HEZ := hid (show Ext w Z by rw [← hZ]; exact HEU.out)
 have HZ4 := hid (show Blk Z (g + 1) (rsL s la sa lc sc) by rw [← hZ]; exact HB4.out)
 have HZ3 := hid (show Blk Z g (kdL T B sl rm (N : Int) pv K.ms.length K.ss.length K.os.length ma qa oa mc qc oc) by rw [← hZ]; exact HB3.out)
 have HZ2 := hid (show Blk Z (g + 1 + 1) [.int .i64 x, .int .u32 y, .int .u32 z, .bool ok] by rw [← hZ]; exact HB2.out)
 have HZ5 := hid (show Blk Z (g + 1 + 1 + 1) [.int .i64 0, .int .i64 0, .int .i64 0, .int .i64 0, .int .u32 0, .int .u32 0, .slice none 0 0, .slice none 0 0] by rw [← hZ]; exact HB5.out)
 have HZ6 := hid (show Blk Z (g + 1 + 1 + 1 + 1) [.int .i64 0, .int .i64 0, .int .i64 0, .int .u32 0, .int .u32 0, .int .i64 0, .int .u32 0, .int .u32 0] by rw [← hZ]; exact HB6.out)
 clear hZ
 clear k0 k1 k2 k3 k4 k5 k6 k7 kg kf d0 d1 d2 d3 d4 d5 d6 d7 d8 d9 d10 dg h0 h1 h2 h3 hgt
 have k0 := HZ4.out.2.2 0 _ rfl
 have k1 := HZ4.out.2.2 1 _ rfl
 have k2 := HZ4.out.2.2 2 _ rfl
 have k3 := HZ4.out.2.2 3 _ rfl
 have k4 := HZ4.out.2.2 4 _ rfl
 have k5 := HZ4.out.2.2 5 _ rfl
 have k6 := HZ4.out.2.2 6 _ rfl
 have k7 := HZ4.out.2.2 7 _ rfl
 have kg := HZ4.out.1
 have kf := HZ4.out.2.1
 have d0 := HZ3.out.2.2 0 _ rfl
 have d1 := HZ3.out.2.2 1 _ rfl
 have d2 := HZ3.out.2.2 2 _ rfl
 have d3 := HZ3.out.2.2 3 _ rfl
 have d4 := HZ3.out.2.2 4 _ rfl
 have d5 := HZ3.out.2.2 5 _ rfl
 have d6 := HZ3.out.2.2 6 _ rfl
 have d7 := HZ3.out.2.2 7 _ rfl
 have d8 := HZ3.out.2.2 8 _ rfl
 have d9 := HZ3.out.2.2 9 _ rfl
 have d10 := HZ3.out.2.2 10 _ rfl
 have dg := HZ3.out.1
 obtain ⟨h0, h1, h2, h3⟩ := HZ2.out.four
 have hgt := HZ2.out.1
 have HSZ := hid (show Rv Z (.agg (rsL s la sa lc sc).toArray) s la sa lc sc from ⟨rfl, HS.out.ld.of wdE_len HEZ.out, HS.out.st.of locE_len HEZ.out, fun a ha => Nat.lt_of_lt_of_le (HS.out.lb a ha) HEZ.out.size, fun a ha => Nat.lt_of_lt_of_le (HS.out.sb a ha) HEZ.out.size⟩)
 have HNl := hid (show Nw w.heap.size la la from nw_refl)
 have HNs := hid (show Nw w.heap.size sa sa from nw_refl)
 have HOl := hid (show ∀ d : Addr, (la : Option Addr) = some d → d.block ≠ g + 1 + 1 + 1 ∧ d.block ≠ g + 1 + 1 + 1 + 1 from fun d hd => by have := HS.out.lb d hd; omega)
 have HOs := hid (show ∀ d : Addr, (sa : Option Addr) = some d → d.block ≠ g + 1 + 1 + 1 ∧ d.block ≠ g + 1 + 1 + 1 + 1 from fun d hd => by have := HS.out.sb d hd; omega)
 clear HNl HNs HOl HOs
 have HL_ := hid (fun w' (h : Ext Z w') => (And.intro (Nat.lt_of_lt_of_le kg h.size) (And.intro (Nat.lt_of_lt_of_le hgt h.size) (And.intro (h.cell k6) (And.intro (h.cell h0) (And.intro (h.cell h1) (h.cell h2)))))))
 refine wp_region_facts [77, 78, 79, 80, 81, 82, 83] [0, 1, 2, 3, 4, 5, 6] rfl (fun w' => Ext Z w') (fsAt [(fun v w' => ∃ q, v = .slice (some ⟨q, 0, none⟩) 0 0 ∧ Ws w' Z.heap.size v []), IsV ?_, IsV ?_, (fun v w' => Ws w' Z.heap.size v s.ld), IsV ?_, IsV ?_, (fun v w' => ∃ q, v = .slice (some ⟨q, 0, none⟩) 1 1 ∧ Blk w' q (wdE (x, y, z)))]) (by kernel_rfl) (by kernel_rfl) ((Ext.refl _).drew) (fun w w' h he => h.trans he) (AllOn.cons (fun _ _ _ h he => by obtain ⟨q, h1, h3⟩ := h; exact ⟨q, h1, h3.of_ext he⟩) (AllOn.cons (fun _ _ _ h _ => h) (AllOn.cons (fun _ _ _ h _ => h) (AllOn.cons (fun _ _ _ h he => Own.of_ext h he) (AllOn.cons (fun _ _ _ h _ => h) (AllOn.cons (fun _ _ _ h _ => h) (AllOn.cons (fun _ _ _ h he => by obtain ⟨q, h1, h2⟩ := h; exact ⟨q, h1, h2.of he⟩) (AllOn.nil)))))))) (AllOn.cons ?_ (AllOn.cons ?_ (AllOn.cons ?_ (AllOn.cons ?_ (AllOn.cons ?_ (AllOn.cons ?_ (AllOn.cons ?_ (AllOn.nil)))))))) ?_
 rotate_left 4
 ·intro A w cx hO hD
  clear hD hO
  refine head_wp (o := ⟨_, _, _, _, _, _⟩) rfl rfl ?_
  simp [go_sem]
  exact ⟨_, rfl, Ext.of_alloc _ _, ⟨_, rfl⟩, (show Ws _ _ _ _ from Own.mono (Own.made (enc := wdE) (size := 3) #[] [] 0 rfl (Nat.le_refl _) (by unfold maxLen; omega) rfl rfl) cx.size)⟩
 ·intro A w cx hO hD
  have e4 := evO hO 4 rfl
  clear hD hO
  refine head_val (o := ⟨_, _, _, _, _, _⟩) rfl ?_ rfl rfl ?_ ?_
  rotate_left 1
  ·simp [go_sem, e4, cx, HL_.out w cx]
   try with_reducible rfl
  ·exact IsV.mk (w := w)
 ·intro A w cx hO hD
  have e78 := evD (hD 1 (by kernel_rfl) 78 rfl)
  clear hD hO
  refine head_val (o := ⟨_, _, _, _, _, _⟩) rfl ?_ rfl rfl ?_ ?_
  rotate_left 1
  ·simp [go_sem, e78, cx, HL_.out w cx]
   try with_reducible rfl
  ·exact IsV.mk (w := w)
 ·intro A w cx hO hD
  have e77 := hD 0 (by kernel_rfl) 77 rfl
  rw [ev_tm] at e77
  have e79 := evD (hD 2 (by kernel_rfl) 79 rfl)
  clear hD hO
  refine head_wp (o := ⟨_, _, _, _, _, _⟩) rfl rfl ?_
  obtain ⟨q, e77, hw⟩ := e77
  rw [e77] at hw
  refine wd_app0_op _ _ rfl q Z.heap.size ((ev_tm A 77).trans e77) hw cx.size la _ lc ((ev_tm A 79).trans e79) s.ld (HS.out.ld.of wdE_len (HEZ.out.trans cx)) (by have := HI.out.ld; omega) ?_
  intro v' r' hv
  exact ⟨_, rfl, ⟨r', rfl⟩, hv⟩
 ·intro A w cx hO hD
  have e5 := evO hO 5 rfl
  clear hD hO
  refine head_val (o := ⟨_, _, _, _, _, _⟩) rfl ?_ rfl rfl ?_ ?_
  rotate_left 1
  ·simp [go_sem, e5, cx, HL_.out w cx]
   try with_reducible rfl
  ·exact IsV.mk (w := w)
 ·intro A w cx hO hD
  have e81 := evD (hD 4 (by kernel_rfl) 81 rfl)
  clear hD hO
  refine head_val (o := ⟨_, _, _, _, _, _⟩) rfl ?_ rfl rfl ?_ ?_
  rotate_left 1
  ·simp [go_sem, e81, cx, HL_.out w cx]
   try with_reducible rfl
  ·exact IsV.mk (w := w)
 ·intro A w cx hO hD
  have e82 := evD (hD 5 (by kernel_rfl) 82 rfl)
  clear hD hO
  refine head_wp (o := ⟨_, _, _, _, _, _⟩) rfl rfl ?_
  simp [go_sem, e82]
  exact ⟨_, rfl, Ext.of_alloc _ _, _, rfl, Blk.new _ _ rfl rfl⟩
 intro u wx hC hF
 obtain ⟨f0, f1, f2, f3, f4, f5, f6, _⟩ := hF
 obtain ⟨v0, g0⟩ : ∃ v, u 0 = v := ⟨_, rfl⟩
 rw [g0] at f0
 have g1 : u 1 = _ := f1
 have g2 : u 2 = _ := f2
 obtain ⟨v3, g3⟩ : ∃ v, u 3 = v := ⟨_, rfl⟩
 rw [g3] at f3
 have g4 : u 4 = _ := f4
 have g5 : u 5 = _ := f5
 obtain ⟨v6, g6⟩ : ∃ v, u 6 = v := ⟨_, rfl⟩
 rw [g6] at f6
 simp only [fPut, Nat.zero_add, Nat.reduceAdd, g0, g1, g2, g3, g4, g5, g6, Act.put, List.setIfInBounds_toArray, List.set_cons_zero, List.set_cons_succ, List.length_cons, List.length_nil, List.drop_succ_cons, List.drop_zero]
 clear g0 g1 g2 g3 g4 g5 g6 f1 f2 f4 f5
 clear f0
 obtain ⟨q6, hv6, hq6⟩ := f6
 subst hv6
 obtain ⟨a3, c3, hs3⟩ := Own.shape f3
 subst hs3
 have HX0 := hid hC
 have HF3 := hid f3
 have HQ6 := hid hq6
 have u6 := k6
 have u5 := k5
 have ug := kg
 have uf := kf
 clear hC f3 hq6
 clear k0 k1 k2 k3 k4 k5 k6 k7 kg kf d0 d1 d2 d3 d4 d5 d6 d7 d8 d9 d10 dg h0 h1 h2 h3 hgt
 go_wp2_with (at_builtin; refine mws_append rfl _ _ rfl Z HX0.out (Nat.le_refl _) HX0.out.size rfl HF3.out _ 1 1 rfl [(x, y, z)] rfl (blk_news HQ6.out) (by have := HI.out.ld; omega) ?_; rintro v9 r9 hv9; rw [← HLd'.out] at hv9; obtain ⟨b9, c9, hs9, hb9, hl9⟩ := Own.openT hv9 (by rw [HDl.out]; omega); subst hs9; have HV9 := hid hv9; have HB9' := hid (And.intro hb9 hl9); clear hv9 hb9 hl9)
 generalize hY : World.setCell _ _ _ = Y
 have hgy : Grn (g + 1) (ext Z r9) Y := by rw [← hY]; exact Grn.refl.setCell _ _
 have HZs0 := hid HZ6.out.1
 have HB9 := hid (show g + 5 ≤ b9 ∧ b9 < Y.heap.size from ⟨by have h1 := HB9'.out.1; have h2 := HZs0.out; omega, Nat.lt_of_lt_of_le HB9'.out.2 hgy.size⟩)
 have HL9 := hid (show Sl Y 3 wdE (.slice (some ⟨b9, 0, none⟩) ld'.length c9) ld' from Sl.grnV wdE_len (Sl.of_own wdE_len HV9.out) hgy (fun a m c he => by cases he; have := HB9.out.1; show b9 ≠ g + 1; omega))
 have HW4 := hid (show Blk Y (g + 1) (rsL { s with ld := ld' } (some ⟨b9, 0, none⟩) sa c9 sc) by rw [← hY]; exact (HZ4.out.ext r9).set 6 (by simp) _)
 have HW2 := hid ((HZ2.out.ext r9).grn hgy (by omega))
 have HW3 := hid ((HZ3.out.ext r9).grn hgy (by omega))
 have HW5 := hid ((HZ5.out.ext r9).grn hgy (by omega))
 have HW6 := hid ((HZ6.out.ext r9).grn hgy (by omega))
 have HEY := hid (show Ext w Y from (HEZ.out.ext r9).grn hgy (by omega))
 clear hY hgy u6 u5 ug uf HZ2 HZ3 HZ4 HZ5 HZ6 HEZ HSZ HX0 HF3 HQ6 HV9 HB9' HZs0
 have HZ2 := HW2
 have HZ3 := HW3
 have HZ4 := HW4
 have HZ5 := HW5
 have HZ6 := HW6
 have HEZ := HEY
 clear HW2 HW3 HW4 HW5 HW6 HEY
 rename_i Zold
 skip
 have k5 := HZ4.out.2.2 5 _ rfl
 have kg := HZ4.out.1
 have d0 := HZ3.out.2.2 0 _ rfl
 have d1 := HZ3.out.2.2 1 _ rfl
 have d2 := HZ3.out.2.2 2 _ rfl
 have d3 := HZ3.out.2.2 3 _ rfl
 have d4 := HZ3.out.2.2 4 _ rfl
 have d5 := HZ3.out.2.2 5 _ rfl
 have d6 := HZ3.out.2.2 6 _ rfl
 have d7 := HZ3.out.2.2 7 _ rfl
 have dg := HZ3.out.1
 go_call (rwho_any s.met.2.2 hz1 hz2 _) as e w' ⟨rfl, r1, rfl⟩
 rw [← HWh.out]
 go_wp2_with fail
 go_call (rplace_any T B sl rm wh pv N HPl.out.hT HPl.out.hB HPl.out.hsl HPl.out.hrm _) as e w' ⟨rfl, r2, rfl⟩
 rw [← HF.out, ← HMo.out]
 generalize hX : ext _ r2 = X
 have hEZX : Ext Y X := by rw [← hX]; (show Ext _ _; repeat first | (with_reducible first | (refine xH ?_; assumption) | exact xR _ | refine xX ?_ _ | refine xA ?_ _) | refine xD ?_ | refine xN ?_ _ | exact xR _)
 have HEX := hid (HEZ.out.trans hEZX)
 have HX2 := hid (HZ2.out.of hEZX)
 have HX3 := hid (HZ3.out.of hEZX)
 have HX4 := hid (HZ4.out.of hEZX)
 have HX5 := hid (HZ5.out.of hEZX)
 have HX6 := hid (HZ6.out.of hEZX)
 have HL9x := hid (HL9.out.of wdE_len hEZX)
 have HB9x := hid (show g + 5 ≤ b9 ∧ b9 < X.heap.size from ⟨HB9.out.1, Nat.lt_of_lt_of_le HB9.out.2 hEZX.size⟩)
 clear hX k5 kg d0 d1 d2 d3 d4 d5 d6 d7 dg
 clear HL9 HB9
 have HL9 := HL9x
 have HB9 := HB9x
 clear HL9x HB9x
 obtain ⟨Z, hZ⟩ : ∃ Z, X = Z := ⟨_, rfl⟩
 rw [hZ]
 have HEZ := hid (show Ext w Z by rw [← hZ]; exact HEX.out)
 have HZ4 := hid (show Blk Z (g + 1) (rsL { s with ld := ld' } (some ⟨b9, 0, none⟩) sa c9 sc) by rw [← hZ]; exact HX4.out)
 have HZ3 := hid (show Blk Z g (kdL T B sl rm (N : Int) pv K.ms.length K.ss.length K.os.length ma qa oa mc qc oc) by rw [← hZ]; exact HX3.out)
 have HZ2 := hid (show Blk Z (g + 1 + 1) [.int .i64 x, .int .u32 y, .int .u32 z, .bool ok] by rw [← hZ]; exact HX2.out)
 have HZ5 := hid (show Blk Z (g + 1 + 1 + 1) [.int .i64 0, .int .i64 0, .int .i64 0, .int .i64 0, .int .u32 0, .int .u32 0, .slice none 0 0, .slice none 0 0] by rw [← hZ]; exact HX5.out)
 have HZ6 := hid (show Blk Z (g + 1 + 1 + 1 + 1) [.int .i64 0, .int .i64 0, .int .i64 0, .int .u32 0, .int .u32 0, .int .i64 0, .int .u32 0, .int .u32 0] by rw [← hZ]; exact HX6.out)
 rw [hZ] at HL9 HB9
 clear hZ
 clear hEZX
 have k0 := HZ4.out.2.2 0 _ rfl
 have k1 := HZ4.out.2.2 1 _ rfl
 have k2 := HZ4.out.2.2 2 _ rfl
 have k3 := HZ4.out.2.2 3 _ rfl
 have k4 := HZ4.out.2.2 4 _ rfl
 have k5 := HZ4.out.2.2 5 _ rfl
 have k6 := HZ4.out.2.2 6 _ rfl
 have k7 := HZ4.out.2.2 7 _ rfl
 have kg := HZ4.out.1
 have kf := HZ4.out.2.1
 have d0 := HZ3.out.2.2 0 _ rfl
 have d1 := HZ3.out.2.2 1 _ rfl
 have d2 := HZ3.out.2.2 2 _ rfl
 have d3 := HZ3.out.2.2 3 _ rfl
 have d4 := HZ3.out.2.2 4 _ rfl
 have d5 := HZ3.out.2.2 5 _ rfl
 have d6 := HZ3.out.2.2 6 _ rfl
 have d7 := HZ3.out.2.2 7 _ rfl
 have d8 := HZ3.out.2.2 8 _ rfl
 have d9 := HZ3.out.2.2 9 _ rfl
 have d10 := HZ3.out.2.2 10 _ rfl
 have dg := HZ3.out.1
 obtain ⟨h0, h1, h2, h3⟩ := HZ2.out.four
 have hgt := HZ2.out.1
 have HSZ := hid (show Rv Z (.agg (rsL { s with ld := ld' } (some ⟨b9, 0, none⟩) sa c9 sc).toArray) { s with ld := ld' } (some ⟨b9, 0, none⟩) sa c9 sc from ⟨rfl, HL9.out, HS.out.st.of locE_len HEZ.out, fun a ha => (by cases ha; exact HB9.out.2), fun a ha => Nat.lt_of_lt_of_le (HS.out.sb a ha) HEZ.out.size⟩)
 have HNl := hid (show Nw w.heap.size la (some ⟨b9, 0, none⟩) from .inr (.inr ⟨_, rfl, by have := HB9.out.1; show w.heap.size ≤ b9; omega⟩))
 have HNs := hid (show Nw w.heap.size sa sa from nw_refl)
 have HOl := hid (show ∀ d : Addr, ((some ⟨b9, 0, none⟩) : Option Addr) = some d → d.block ≠ g + 1 + 1 + 1 ∧ d.block ≠ g + 1 + 1 + 1 + 1 from fun d hd => by cases hd; have := HB9.out.1; exact ⟨by show b9 ≠ _; omega, by show b9 ≠ _; omega⟩)
 have HOs := hid (show ∀ d : Addr, (sa : Option Addr) = some d → d.block ≠ g + 1 + 1 + 1 ∧ d.block ≠ g + 1 + 1 + 1 + 1 from fun d hd => by have := HS.out.sb d hd; omega)
 have hDb := HLb.out
 have hfb := HRm.out
 have hmb := HFr.out
 have hcs : (ld'.length = 1) ∨ ∃ v1 v2 v3, ld'[1]? = some (v1, v2, v3) ∧ 2 ≤ ld'.length := by
  by_cases h : ld'.length = 1
  ·exact .inl h
  ·obtain ⟨⟨v1, v2, v3⟩, hv⟩ : ∃ v, ld'[1]? = some v := ⟨_, List.getElem?_eq_getElem (by have := HDl.out; omega)⟩
   exact .inr ⟨v1, v2, v3, hv, by have := HDl.out; omega⟩
 obtain ⟨fd, hfd⟩ : ∃ fd, fd = f' + (ld'.length : Int) := ⟨_, rfl⟩
 have hwf : wrap64 (f' + (ld'.length : Int)) = fd := by rw [IntWalk.wrap64_in _ ⟨by omega, by omega⟩]; exact hfd.symm
 have hwf2 : IntKind.i64.wrap (f' + (ld'.length : Int)) = fd := (IntWalk.i64_left _).trans hwf
 have HFd := hid hfd
 rcases hcs with h1 | ⟨v1, v2, v3, hv, h2⟩
 ·have HRr := hid (show rNext K s (x, y, z) = ({ s with ld := ld' }, ((1 : Int), fd, zW)) by rw [HFd.out]; refine HRA.out ?_; rw [HMn.out, List.getElem?_eq_none (by omega)]; dsimp only; omega)
  have hi1 : ¬ (1 : Int) < (ld'.length : Int) := by omega
  have hd1 : decide (1 < ld'.length) = false := decide_eq_false (by omega)
  have hi2 : (ld'.length : Int) < 2 := by omega
  have hd2 : decide (ld'.length < 2) = true := decide_eq_true (by omega)
  clear h1 hDb hfb hmb hfd
  go_upto_region 23 with fail
  have HZs := hid HZ6.out.1
  have HL_ := hid (fun w' (h : Ext Z w') => (And.intro (Nat.lt_of_lt_of_le kg h.size) (And.intro (h.cell k0) (And.intro (h.cell k1) (And.intro (h.cell k2) (And.intro (h.cell k3) (And.intro (h.cell k4) (And.intro (h.cell k5) (And.intro (h.cell k6) (h.cell k7))))))))))
  refine wp_region_facts [133, 134, 135, 136, 137, 138, 139, 140] [0, 1, 2, 3, 4, 5, 6, 7] rfl (fun w' => Ext Z w') (fsAt [IsV ?_, IsV ?_, IsV ?_, IsV ?_, IsV ?_, IsV ?_, IsV ?_, IsV (.agg (acE ((1 : Int), fd, zW)).toArray)]) (by kernel_rfl) (by kernel_rfl) ((Ext.refl _).drew) (fun w w' h he => h.trans he) (AllOn.cons (fun _ _ _ h _ => h) (AllOn.cons (fun _ _ _ h _ => h) (AllOn.cons (fun _ _ _ h _ => h) (AllOn.cons (fun _ _ _ h _ => h) (AllOn.cons (fun _ _ _ h _ => h) (AllOn.cons (fun _ _ _ h _ => h) (AllOn.cons (fun _ _ _ h _ => h) (AllOn.cons (fun _ _ _ h _ => h) (AllOn.nil))))))))) (AllOn.cons ?_ (AllOn.cons ?_ (AllOn.cons ?_ (AllOn.cons ?_ (AllOn.cons ?_ (AllOn.cons ?_ (AllOn.cons ?_ (AllOn.cons ?_ (AllOn.nil))))))))) ?_
  rotate_left 7
  ·intro A w cx hO hD
   have e4 := evO hO 4 rfl
   clear hD hO
   refine head_val (o := ⟨_, _, _, _, _, _⟩) rfl ?_ rfl rfl ?_ ?_
   rotate_left 1
   ·simp [go_sem, e4, cx, HL_.out w cx, hwf, hwf2]
    try with_reducible rfl
   ·exact IsV.mk (w := w)
  ·intro A w cx hO hD
   have e14 := evO hO 14 rfl
   clear hD hO
   refine head_val (o := ⟨_, _, _, _, _, _⟩) rfl ?_ rfl rfl ?_ ?_
   rotate_left 1
   ·simp [go_sem, e14, cx, HL_.out w cx, hwf, hwf2]
    try with_reducible rfl
   ·exact IsV.mk (w := w)
  ·intro A w cx hO hD
   have e4 := evO hO 4 rfl
   clear hD hO
   refine head_val (o := ⟨_, _, _, _, _, _⟩) rfl ?_ rfl rfl ?_ ?_
   rotate_left 1
   ·simp [go_sem, e4, cx, HL_.out w cx, hwf, hwf2]
    try with_reducible rfl
   ·exact IsV.mk (w := w)
  ·intro A w cx hO hD
   have e135 := evD (hD 2 (by kernel_rfl) 135 rfl)
   clear hD hO
   refine head_val (o := ⟨_, _, _, _, _, _⟩) rfl ?_ rfl rfl ?_ ?_
   rotate_left 1
   ·simp [go_sem, e135, cx, HL_.out w cx, hwf, hwf2]
    try with_reducible rfl
   ·exact IsV.mk (w := w)
  ·intro A w cx hO hD
   have e136 := evD (hD 3 (by kernel_rfl) 136 rfl)
   clear hD hO
   refine head_val (o := ⟨_, _, _, _, _, _⟩) rfl ?_ rfl rfl ?_ ?_
   rotate_left 1
   ·simp [go_sem, e136, cx, HL_.out w cx, hwf, hwf2]
    try with_reducible rfl
   ·exact IsV.mk (w := w)
  ·intro A w cx hO hD
   have e134 := evD (hD 1 (by kernel_rfl) 134 rfl)
   have e137 := evD (hD 4 (by kernel_rfl) 137 rfl)
   clear hD hO
   refine head_val (o := ⟨_, _, _, _, _, _⟩) rfl ?_ rfl rfl ?_ ?_
   rotate_left 1
   ·simp [go_sem, e134, e137, cx, HL_.out w cx, hwf, hwf2]
    try with_reducible rfl
   ·exact IsV.mk (w := w)
  ·intro A w cx hO hD
   clear hD hO
   refine head_val (o := ⟨_, _, _, _, _, _⟩) rfl ?_ rfl rfl ?_ ?_
   rotate_left 1
   ·simp [go_sem, cx, HL_.out w cx, hwf, hwf2]
    try with_reducible rfl
   ·exact IsV.mk (w := w)
  ·intro A w cx hO hD
   have e138 := evD (hD 5 (by kernel_rfl) 138 rfl)
   have e139 := evD (hD 6 (by kernel_rfl) 139 rfl)
   clear hD hO
   refine head_wp (o := ⟨_, _, _, _, _, _⟩) rfl rfl ?_
   simp [go_sem, e138, e139]
   refine (ract_any _ _ _ _ _ _).mono ?_
   rintro e w' ⟨rfl, r', rfl⟩
   exact ⟨_, rfl, ⟨r', rfl⟩, rfl⟩
  intro u wx hC hF
  obtain ⟨f0, f1, f2, f3, f4, f5, f6, f7, _⟩ := hF
  have g0 : u 0 = _ := f0
  have g1 : u 1 = _ := f1
  have g2 : u 2 = _ := f2
  have g3 : u 3 = _ := f3
  have g4 : u 4 = _ := f4
  have g5 : u 5 = _ := f5
  have g6 : u 6 = _ := f6
  have g7 : u 7 = _ := f7
  simp only [fPut, Nat.zero_add, Nat.reduceAdd, g0, g1, g2, g3, g4, g5, g6, g7, Act.put, List.setIfInBounds_toArray, List.set_cons_zero, List.set_cons_succ, List.length_cons, List.length_nil, List.drop_succ_cons, List.drop_zero]
  clear g0 g1 g2 g3 g4 g5 g6 g7 f0 f1 f2 f3 f4 f5 f6 f7
  have HEx := hid (HEZ.out.trans hC)
  have HBx5 := hid (HZ5.out.of hC)
  have HBx6 := hid (HZ6.out.of hC)
  have HV := hid (show Rv wx (.agg (rsL { s with ld := ld' } (some ⟨b9, 0, none⟩) sa c9 sc).toArray) { s with ld := ld' } (some ⟨b9, 0, none⟩) sa c9 sc from HSZ.out.of hC)
  have HN1 := hid (show Nw Z.heap.size (some ⟨b9, 0, none⟩) (some ⟨b9, 0, none⟩) from nw_refl)
  have HN2 := hid (show Nw Z.heap.size sa sa from nw_refl)
  clear hC
  clear k0 k1 k2 k3 k4 k5 k6 k7 kg kf d0 d1 d2 d3 d4 d5 d6 d7 d8 d9 d10 dg h0 h1 h2 h3 hgt
  have y1 := HBx5.out.1
  have y2' := HBx6.out.1
  have y3 := HBx5.out.2.1
  have y4 := HBx6.out.2.1
  obtain ⟨x0, x1, x2, x3, x4, x5, x6, x7⟩ := HBx5.out.eight
  obtain ⟨v0, v1, v2, v3, v4, v5, v6, v7⟩ := HBx6.out.eight
  simp only [acE, zW]
  (repeat (first | go_values | go_skip | go_guarded | go_step | go_upon | (simp only [Int.not_lt, Int.not_le] at *; go_simp) | (go_ite <;> go_prune <;> (try go_simp))))
  obtain ⟨W, hW, hW5, hW6, hWE, W1, hG1, hG2⟩ := st16 HBx5.out HBx6.out (by omega) (.int .i64 s.ph) (.int .i64 s.i) (.int .i64 s.j) (.int .i64 s.met.1) (.int .u32 s.met.2.1) (.int .u32 s.met.2.2) (.slice (some ⟨b9, 0, none⟩) ld'.length c9) (.slice sa s.st.length sc) (.int .i64 1) (.int .i64 fd) (.int .i64 0) (.int .u32 0) (.int .u32 0) (.int .i64 0) (.int .u32 0) (.int .u32 0)
  rw [hW]
  have HE := hid (hWE w HEx.out (by omega) (by omega))
  have HSz := hid (Nat.le_trans hG1.size hG2.size)
  have HWl := hid (HV.out.ld.two wdE_len hG1 hG2 (HN1.out.ne2 (fun d hd => (HOl.out d hd).1) (by have := HZs.out; omega)) (HN1.out.ne2 (fun d hd => (HOl.out d hd).2) (by have := HZs.out; omega)))
  have HWs := hid (HV.out.st.two locE_len hG1 hG2 (HN2.out.ne2 (fun d hd => (HOs.out d hd).1) (by have := HZs.out; omega)) (HN2.out.ne2 (fun d hd => (HOs.out d hd).2) (by have := HZs.out; omega)))
  obtain ⟨r0, r1, r2, r3, r4, r5, r6, r7⟩ := hW5.eight
  obtain ⟨q0, q1, q2, q3, q4, q5, q6, q7⟩ := hW6.eight
  have w5 := hW5.1
  have w6 := hW6.1
  exact bodyPost_ret (v := .tuple #[.agg (rsL { s with ld := ld' } (some ⟨b9, 0, none⟩) sa c9 sc).toArray, .agg (acE ((1 : Int), fd, zW)).toArray]) (by simp [results, Tryd.results7, go_sem, r0, r1, r2, r3, r4, r5, r6, r7, q0, q1, q2, q3, q4, q5, q6, q7, w5, w6, acE, zW]) rfl (by rw [HRr.out]; exact ⟨_, (some ⟨b9, 0, none⟩), sa, c9, sc, rfl, ⟨rfl, HWl.out, HWs.out, fun a ha => Nat.lt_of_lt_of_le (HV.out.lb a ha) HSz.out, fun a ha => Nat.lt_of_lt_of_le (HV.out.sb a ha) HSz.out⟩, HNl.out.trans (HN1.out.mono HEZ.out.size), HNs.out.trans (HN2.out.mono HEZ.out.size), HE.out⟩)
 ·have HV1 := hid hv
  have hi1 : (1 : Int) < (ld'.length : Int) := by omega
  have hd1 : decide (1 < ld'.length) = true := decide_eq_true (by omega)
  have hi2 : ¬ (ld'.length : Int) < 2 := by omega
  have hd2 : decide (ld'.length < 2) = false := decide_eq_false (by omega)
  obtain ⟨_, b0, o0, hab, hb0, hc0⟩ := Sl.at HL9.out hv
  cases hab
  have w0 := hc0 0 (by omega)
  simp [wdE] at w0
  have w9 := HB9.out.2
  by_cases hva : 1 ≤ v1
  ·have hdv : decide (1 ≤ v1) = true := decide_eq_true hva
   by_cases hvb : v1 ≤ mo
   ·have hdw : decide (v1 ≤ mo) = true := decide_eq_true hvb
    obtain ⟨m3, hm3⟩ : ∃ m3, m3 = 3 * v1 := ⟨_, rfl⟩
    have hw3 : wrap64 (3 * v1) = m3 := by rw [IntWalk.wrap64_in _ ⟨by omega, by omega⟩]; exact hm3.symm
    obtain ⟨n, hn⟩ : ∃ n, n = 2 + 3 * v1.toNat := ⟨_, rfl⟩
    have hw4 : wrap64 (2 + m3) = (n : Int) := by rw [IntWalk.wrap64_in _ ⟨by omega, by omega⟩]; omega
    have HNn := hid (show rMany K { s with ld := ld' } = n by rw [HMn.out, HV1.out]; dsimp only; rw [if_pos ⟨hva, hvb⟩, hn])
    by_cases hlt : ld'.length < n
    ·have hd3 : decide (ld'.length < n) = true := decide_eq_true hlt
     have hi3 : (ld'.length : Int) < (n : Int) := by omega
     have HRr := hid (show rNext K s (x, y, z) = ({ s with ld := ld' }, ((1 : Int), fd, zW)) by rw [HFd.out]; exact HRA.out (by rw [HNn.out]; exact hlt))
     clear hv h2 hDb hfb hmb hfd hc0 hb0 hva hvb hm3 hn hlt
     go_upto_region 23 with fail
     clear w0 w9
     have HZs := hid HZ6.out.1
     have HL_ := hid (fun w' (h : Ext Z w') => (And.intro (Nat.lt_of_lt_of_le kg h.size) (And.intro (h.cell k0) (And.intro (h.cell k1) (And.intro (h.cell k2) (And.intro (h.cell k3) (And.intro (h.cell k4) (And.intro (h.cell k5) (And.intro (h.cell k6) (h.cell k7))))))))))
     refine wp_region_facts [133, 134, 135, 136, 137, 138, 139, 140] [0, 1, 2, 3, 4, 5, 6, 7] rfl (fun w' => Ext Z w') (fsAt [IsV ?_, IsV ?_, IsV ?_, IsV ?_, IsV ?_, IsV ?_, IsV ?_, IsV (.agg (acE ((1 : Int), fd, zW)).toArray)]) (by kernel_rfl) (by kernel_rfl) ((Ext.refl _).drew) (fun w w' h he => h.trans he) (AllOn.cons (fun _ _ _ h _ => h) (AllOn.cons (fun _ _ _ h _ => h) (AllOn.cons (fun _ _ _ h _ => h) (AllOn.cons (fun _ _ _ h _ => h) (AllOn.cons (fun _ _ _ h _ => h) (AllOn.cons (fun _ _ _ h _ => h) (AllOn.cons (fun _ _ _ h _ => h) (AllOn.cons (fun _ _ _ h _ => h) (AllOn.nil))))))))) (AllOn.cons ?_ (AllOn.cons ?_ (AllOn.cons ?_ (AllOn.cons ?_ (AllOn.cons ?_ (AllOn.cons ?_ (AllOn.cons ?_ (AllOn.cons ?_ (AllOn.nil))))))))) ?_
     rotate_left 7
     ·intro A w cx hO hD
      have e4 := evO hO 4 rfl
      clear hD hO
      refine head_val (o := ⟨_, _, _, _, _, _⟩) rfl ?_ rfl rfl ?_ ?_
      rotate_left 1
      ·simp [go_sem, e4, cx, HL_.out w cx, hwf, hwf2]
       try with_reducible rfl
      ·exact IsV.mk (w := w)
     ·intro A w cx hO hD
      have e14 := evO hO 14 rfl
      clear hD hO
      refine head_val (o := ⟨_, _, _, _, _, _⟩) rfl ?_ rfl rfl ?_ ?_
      rotate_left 1
      ·simp [go_sem, e14, cx, HL_.out w cx, hwf, hwf2]
       try with_reducible rfl
      ·exact IsV.mk (w := w)
     ·intro A w cx hO hD
      have e4 := evO hO 4 rfl
      clear hD hO
      refine head_val (o := ⟨_, _, _, _, _, _⟩) rfl ?_ rfl rfl ?_ ?_
      rotate_left 1
      ·simp [go_sem, e4, cx, HL_.out w cx, hwf, hwf2]
       try with_reducible rfl
      ·exact IsV.mk (w := w)
     ·intro A w cx hO hD
      have e135 := evD (hD 2 (by kernel_rfl) 135 rfl)
      clear hD hO
      refine head_val (o := ⟨_, _, _, _, _, _⟩) rfl ?_ rfl rfl ?_ ?_
      rotate_left 1
      ·simp [go_sem, e135, cx, HL_.out w cx, hwf, hwf2]
       try with_reducible rfl
      ·exact IsV.mk (w := w)
     ·intro A w cx hO hD
      have e136 := evD (hD 3 (by kernel_rfl) 136 rfl)
      clear hD hO
      refine head_val (o := ⟨_, _, _, _, _, _⟩) rfl ?_ rfl rfl ?_ ?_
      rotate_left 1
      ·simp [go_sem, e136, cx, HL_.out w cx, hwf, hwf2]
       try with_reducible rfl
      ·exact IsV.mk (w := w)
     ·intro A w cx hO hD
      have e134 := evD (hD 1 (by kernel_rfl) 134 rfl)
      have e137 := evD (hD 4 (by kernel_rfl) 137 rfl)
      clear hD hO
      refine head_val (o := ⟨_, _, _, _, _, _⟩) rfl ?_ rfl rfl ?_ ?_
      rotate_left 1
      ·simp [go_sem, e134, e137, cx, HL_.out w cx, hwf, hwf2]
       try with_reducible rfl
      ·exact IsV.mk (w := w)
     ·intro A w cx hO hD
      clear hD hO
      refine head_val (o := ⟨_, _, _, _, _, _⟩) rfl ?_ rfl rfl ?_ ?_
      rotate_left 1
      ·simp [go_sem, cx, HL_.out w cx, hwf, hwf2]
       try with_reducible rfl
      ·exact IsV.mk (w := w)
     ·intro A w cx hO hD
      have e138 := evD (hD 5 (by kernel_rfl) 138 rfl)
      have e139 := evD (hD 6 (by kernel_rfl) 139 rfl)
      clear hD hO
      refine head_wp (o := ⟨_, _, _, _, _, _⟩) rfl rfl ?_
      simp [go_sem, e138, e139]
      refine (ract_any _ _ _ _ _ _).mono ?_
      rintro e w' ⟨rfl, r', rfl⟩
      exact ⟨_, rfl, ⟨r', rfl⟩, rfl⟩
     intro u wx hC hF
     obtain ⟨f0, f1, f2, f3, f4, f5, f6, f7, _⟩ := hF
     have g0 : u 0 = _ := f0
     have g1 : u 1 = _ := f1
     have g2 : u 2 = _ := f2
     have g3 : u 3 = _ := f3
     have g4 : u 4 = _ := f4
     have g5 : u 5 = _ := f5
     have g6 : u 6 = _ := f6
     have g7 : u 7 = _ := f7
     simp only [fPut, Nat.zero_add, Nat.reduceAdd, g0, g1, g2, g3, g4, g5, g6, g7, Act.put, List.setIfInBounds_toArray, List.set_cons_zero, List.set_cons_succ, List.length_cons, List.length_nil, List.drop_succ_cons, List.drop_zero]
     clear g0 g1 g2 g3 g4 g5 g6 g7 f0 f1 f2 f3 f4 f5 f6 f7
     have HEx := hid (HEZ.out.trans hC)
     have HBx5 := hid (HZ5.out.of hC)
     have HBx6 := hid (HZ6.out.of hC)
     have HV := hid (show Rv wx (.agg (rsL { s with ld := ld' } (some ⟨b9, 0, none⟩) sa c9 sc).toArray) { s with ld := ld' } (some ⟨b9, 0, none⟩) sa c9 sc from HSZ.out.of hC)
     have HN1 := hid (show Nw Z.heap.size (some ⟨b9, 0, none⟩) (some ⟨b9, 0, none⟩) from nw_refl)
     have HN2 := hid (show Nw Z.heap.size sa sa from nw_refl)
     clear hC
     clear k0 k1 k2 k3 k4 k5 k6 k7 kg kf d0 d1 d2 d3 d4 d5 d6 d7 d8 d9 d10 dg h0 h1 h2 h3 hgt
     have y1 := HBx5.out.1
     have y2' := HBx6.out.1
     have y3 := HBx5.out.2.1
     have y4 := HBx6.out.2.1
     obtain ⟨x0, x1, x2, x3, x4, x5, x6, x7⟩ := HBx5.out.eight
     obtain ⟨v0, v1, v2, v3, v4, v5, v6, v7⟩ := HBx6.out.eight
     simp only [acE, zW]
     (repeat (first | go_values | go_skip | go_guarded | go_step | go_upon | (simp only [Int.not_lt, Int.not_le] at *; go_simp) | (go_ite <;> go_prune <;> (try go_simp))))
     obtain ⟨W, hW, hW5, hW6, hWE, W1, hG1, hG2⟩ := st16 HBx5.out HBx6.out (by omega) (.int .i64 s.ph) (.int .i64 s.i) (.int .i64 s.j) (.int .i64 s.met.1) (.int .u32 s.met.2.1) (.int .u32 s.met.2.2) (.slice (some ⟨b9, 0, none⟩) ld'.length c9) (.slice sa s.st.length sc) (.int .i64 1) (.int .i64 fd) (.int .i64 0) (.int .u32 0) (.int .u32 0) (.int .i64 0) (.int .u32 0) (.int .u32 0)
     rw [hW]
     have HE := hid (hWE w HEx.out (by omega) (by omega))
     have HSz := hid (Nat.le_trans hG1.size hG2.size)
     have HWl := hid (HV.out.ld.two wdE_len hG1 hG2 (HN1.out.ne2 (fun d hd => (HOl.out d hd).1) (by have := HZs.out; omega)) (HN1.out.ne2 (fun d hd => (HOl.out d hd).2) (by have := HZs.out; omega)))
     have HWs := hid (HV.out.st.two locE_len hG1 hG2 (HN2.out.ne2 (fun d hd => (HOs.out d hd).1) (by have := HZs.out; omega)) (HN2.out.ne2 (fun d hd => (HOs.out d hd).2) (by have := HZs.out; omega)))
     obtain ⟨r0, r1, r2, r3, r4, r5, r6, r7⟩ := hW5.eight
     obtain ⟨q0, q1, q2, q3, q4, q5, q6, q7⟩ := hW6.eight
     have w5 := hW5.1
     have w6 := hW6.1
     exact bodyPost_ret (v := .tuple #[.agg (rsL { s with ld := ld' } (some ⟨b9, 0, none⟩) sa c9 sc).toArray, .agg (acE ((1 : Int), fd, zW)).toArray]) (by simp [results, Tryd.results7, go_sem, r0, r1, r2, r3, r4, r5, r6, r7, q0, q1, q2, q3, q4, q5, q6, q7, w5, w6, acE, zW]) rfl (by rw [HRr.out]; exact ⟨_, (some ⟨b9, 0, none⟩), sa, c9, sc, rfl, ⟨rfl, HWl.out, HWs.out, fun a ha => Nat.lt_of_lt_of_le (HV.out.lb a ha) HSz.out, fun a ha => Nat.lt_of_lt_of_le (HV.out.sb a ha) HSz.out⟩, HNl.out.trans (HN1.out.mono HEZ.out.size), HNs.out.trans (HN2.out.mono HEZ.out.size), HE.out⟩)
    ·have hd3 : decide (ld'.length < n) = false := decide_eq_false hlt
     have hi3 : ¬ (ld'.length : Int) < (n : Int) := by omega
     have HNm := hid (show ¬ ld'.length < rMany K { s with ld := ld' } by rw [HNn.out]; exact hlt)
     clear hv h2 hDb hfb hmb hfd hc0 hb0 hva hvb hm3 hn hlt
     go_upto_region 24 with fail
     clear w0 w9 hd1 hi1 hi2 hd2 hdv hdw hw3 hw4 hd3 hi3 hwf hwf2
     have HKZ := hid (HK.out.of HEZ.out)
     have HZs := hid HZ6.out.1
     obtain ⟨r, hr⟩ : ∃ r, r = rPlain K { s with ld := ld' } := ⟨_, rfl⟩
     have HC := hid (rplain_any HKZ.out HSZ.out HPl.out p HPp.out (by have := HI.out.st; show _ ≤ _; dsimp only; omega) (by have := HLb.out; show _ ≤ _; dsimp only; omega) HLk.out HI.out.metk (by show 0 < (rplaceN T B sl rm (whoN s.met.2.2).1).2 → _; rw [← HWh.out, ← HF.out, ← HMo.out]; exact HFit.out))
     rw [← hr] at HC
     have HRr := hid (show rNext K s (x, y, z) = r by rw [hr]; exact (HRB.out HNm.out))
     clear hr
     obtain ⟨⟨ph2, i2, j2, ⟨m2, m3, m4⟩, ld2, st2⟩, op2, at2, a3, a4, a5⟩ := r
     go_wp2_with (go_call HC.out as e w' ⟨v, la2, sa2, lc2, sc2, rfl, hv, hn1, hn2, he2⟩; have hvv := hv.val; subst hvv; have HV := hid hv; have HN1 := hid hn1; have HN2 := hid hn2; clear hv hn1 hn2; have HEx := hid (HEZ.out.trans he2); have HBx5 := hid (HZ5.out.of he2); have HBx6 := hid (HZ6.out.of he2); clear he2; have y1 := HBx5.out.1; have y2' := HBx6.out.1; have y3 := HBx5.out.2.1; have y4 := HBx6.out.2.1; obtain ⟨x0, x1, x2, x3, x4, x5, x6, x7⟩ := HBx5.out.eight; obtain ⟨v0, v1, v2, v3, v4, v5, v6, v7⟩ := HBx6.out.eight; simp only [acE])
     obtain ⟨W, hW, hW5, hW6, hWE, W1, hG1, hG2⟩ := st16 HBx5.out HBx6.out (by omega) (.int .i64 ph2) (.int .i64 i2) (.int .i64 j2) (.int .i64 m2) (.int .u32 m3) (.int .u32 m4) (.slice la2 ld2.length lc2) (.slice sa2 st2.length sc2) (.int .i64 op2) (.int .i64 at2) (.int .i64 0) (.int .u32 0) (.int .u32 0) (.int .i64 a3) (.int .u32 a4) (.int .u32 a5)
     rw [hW]
     have HE := hid (hWE w HEx.out (by omega) (by omega))
     have HSz := hid (Nat.le_trans hG1.size hG2.size)
     have HWl := hid (HV.out.ld.two wdE_len hG1 hG2 (HN1.out.ne2 (fun d hd => (HOl.out d hd).1) (by have := HZs.out; omega)) (HN1.out.ne2 (fun d hd => (HOl.out d hd).2) (by have := HZs.out; omega)))
     have HWs := hid (HV.out.st.two locE_len hG1 hG2 (HN2.out.ne2 (fun d hd => (HOs.out d hd).1) (by have := HZs.out; omega)) (HN2.out.ne2 (fun d hd => (HOs.out d hd).2) (by have := HZs.out; omega)))
     obtain ⟨r0, r1, r2, r3, r4, r5, r6, r7⟩ := hW5.eight
     obtain ⟨q0, q1, q2, q3, q4, q5, q6, q7⟩ := hW6.eight
     have w5 := hW5.1
     have w6 := hW6.1
     exact bodyPost_ret (v := .tuple #[.agg (rsL ⟨ph2, i2, j2, (m2, m3, m4), ld2, st2⟩ la2 sa2 lc2 sc2).toArray, .agg (acE (op2, at2, (a3, a4, a5))).toArray]) (by simp [results, Tryd.results7, go_sem, r0, r1, r2, r3, r4, r5, r6, r7, q0, q1, q2, q3, q4, q5, q6, q7, w5, w6, acE, zW]) rfl (by rw [HRr.out]; exact ⟨_, la2, sa2, lc2, sc2, rfl, ⟨rfl, HWl.out, HWs.out, fun a ha => Nat.lt_of_lt_of_le (HV.out.lb a ha) HSz.out, fun a ha => Nat.lt_of_lt_of_le (HV.out.sb a ha) HSz.out⟩, HNl.out.trans (HN1.out.mono HEZ.out.size), HNs.out.trans (HN2.out.mono HEZ.out.size), HE.out⟩)
   ·have hdw : decide (v1 ≤ mo) = false := decide_eq_false hvb
    have HNm := hid (show ¬ ld'.length < rMany K { s with ld := ld' } by rw [HMn.out, HV1.out]; dsimp only; rw [if_neg (fun h => hvb h.2)]; omega)
    clear hv h2 hDb hfb hmb hfd hc0 hb0 hva
    go_upto_region 24 with fail
    clear w0 w9 hd1 hi1 hi2 hd2 hdv hdw hwf hwf2
    have HKZ := hid (HK.out.of HEZ.out)
    have HZs := hid HZ6.out.1
    obtain ⟨r, hr⟩ : ∃ r, r = rPlain K { s with ld := ld' } := ⟨_, rfl⟩
    have HC := hid (rplain_any HKZ.out HSZ.out HPl.out p HPp.out (by have := HI.out.st; show _ ≤ _; dsimp only; omega) (by have := HLb.out; show _ ≤ _; dsimp only; omega) HLk.out HI.out.metk (by show 0 < (rplaceN T B sl rm (whoN s.met.2.2).1).2 → _; rw [← HWh.out, ← HF.out, ← HMo.out]; exact HFit.out))
    rw [← hr] at HC
    have HRr := hid (show rNext K s (x, y, z) = r by rw [hr]; exact (HRB.out HNm.out))
    clear hr
    obtain ⟨⟨ph2, i2, j2, ⟨m2, m3, m4⟩, ld2, st2⟩, op2, at2, a3, a4, a5⟩ := r
    go_wp2_with (go_call HC.out as e w' ⟨v, la2, sa2, lc2, sc2, rfl, hv, hn1, hn2, he2⟩; have hvv := hv.val; subst hvv; have HV := hid hv; have HN1 := hid hn1; have HN2 := hid hn2; clear hv hn1 hn2; have HEx := hid (HEZ.out.trans he2); have HBx5 := hid (HZ5.out.of he2); have HBx6 := hid (HZ6.out.of he2); clear he2; have y1 := HBx5.out.1; have y2' := HBx6.out.1; have y3 := HBx5.out.2.1; have y4 := HBx6.out.2.1; obtain ⟨x0, x1, x2, x3, x4, x5, x6, x7⟩ := HBx5.out.eight; obtain ⟨v0, v1, v2, v3, v4, v5, v6, v7⟩ := HBx6.out.eight; simp only [acE])
    obtain ⟨W, hW, hW5, hW6, hWE, W1, hG1, hG2⟩ := st16 HBx5.out HBx6.out (by omega) (.int .i64 ph2) (.int .i64 i2) (.int .i64 j2) (.int .i64 m2) (.int .u32 m3) (.int .u32 m4) (.slice la2 ld2.length lc2) (.slice sa2 st2.length sc2) (.int .i64 op2) (.int .i64 at2) (.int .i64 0) (.int .u32 0) (.int .u32 0) (.int .i64 a3) (.int .u32 a4) (.int .u32 a5)
    rw [hW]
    have HE := hid (hWE w HEx.out (by omega) (by omega))
    have HSz := hid (Nat.le_trans hG1.size hG2.size)
    have HWl := hid (HV.out.ld.two wdE_len hG1 hG2 (HN1.out.ne2 (fun d hd => (HOl.out d hd).1) (by have := HZs.out; omega)) (HN1.out.ne2 (fun d hd => (HOl.out d hd).2) (by have := HZs.out; omega)))
    have HWs := hid (HV.out.st.two locE_len hG1 hG2 (HN2.out.ne2 (fun d hd => (HOs.out d hd).1) (by have := HZs.out; omega)) (HN2.out.ne2 (fun d hd => (HOs.out d hd).2) (by have := HZs.out; omega)))
    obtain ⟨r0, r1, r2, r3, r4, r5, r6, r7⟩ := hW5.eight
    obtain ⟨q0, q1, q2, q3, q4, q5, q6, q7⟩ := hW6.eight
    have w5 := hW5.1
    have w6 := hW6.1
    exact bodyPost_ret (v := .tuple #[.agg (rsL ⟨ph2, i2, j2, (m2, m3, m4), ld2, st2⟩ la2 sa2 lc2 sc2).toArray, .agg (acE (op2, at2, (a3, a4, a5))).toArray]) (by simp [results, Tryd.results7, go_sem, r0, r1, r2, r3, r4, r5, r6, r7, q0, q1, q2, q3, q4, q5, q6, q7, w5, w6, acE, zW]) rfl (by rw [HRr.out]; exact ⟨_, la2, sa2, lc2, sc2, rfl, ⟨rfl, HWl.out, HWs.out, fun a ha => Nat.lt_of_lt_of_le (HV.out.lb a ha) HSz.out, fun a ha => Nat.lt_of_lt_of_le (HV.out.sb a ha) HSz.out⟩, HNl.out.trans (HN1.out.mono HEZ.out.size), HNs.out.trans (HN2.out.mono HEZ.out.size), HE.out⟩)
  ·have hdv : decide (1 ≤ v1) = false := decide_eq_false hva
   have HNm := hid (show ¬ ld'.length < rMany K { s with ld := ld' } by rw [HMn.out, HV1.out]; dsimp only; rw [if_neg (fun h => hva h.1)]; omega)
   clear hv h2 hDb hfb hmb hfd hc0 hb0
   go_upto_region 24 with fail
   clear w0 w9 hd1 hi1 hi2 hd2 hdv hwf hwf2
   have HKZ := hid (HK.out.of HEZ.out)
   have HZs := hid HZ6.out.1
   obtain ⟨r, hr⟩ : ∃ r, r = rPlain K { s with ld := ld' } := ⟨_, rfl⟩
   have HC := hid (rplain_any HKZ.out HSZ.out HPl.out p HPp.out (by have := HI.out.st; show _ ≤ _; dsimp only; omega) (by have := HLb.out; show _ ≤ _; dsimp only; omega) HLk.out HI.out.metk (by show 0 < (rplaceN T B sl rm (whoN s.met.2.2).1).2 → _; rw [← HWh.out, ← HF.out, ← HMo.out]; exact HFit.out))
   rw [← hr] at HC
   have HRr := hid (show rNext K s (x, y, z) = r by rw [hr]; exact (HRB.out HNm.out))
   clear hr
   obtain ⟨⟨ph2, i2, j2, ⟨m2, m3, m4⟩, ld2, st2⟩, op2, at2, a3, a4, a5⟩ := r
   go_wp2_with (go_call HC.out as e w' ⟨v, la2, sa2, lc2, sc2, rfl, hv, hn1, hn2, he2⟩; have hvv := hv.val; subst hvv; have HV := hid hv; have HN1 := hid hn1; have HN2 := hid hn2; clear hv hn1 hn2; have HEx := hid (HEZ.out.trans he2); have HBx5 := hid (HZ5.out.of he2); have HBx6 := hid (HZ6.out.of he2); clear he2; have y1 := HBx5.out.1; have y2' := HBx6.out.1; have y3 := HBx5.out.2.1; have y4 := HBx6.out.2.1; obtain ⟨x0, x1, x2, x3, x4, x5, x6, x7⟩ := HBx5.out.eight; obtain ⟨v0, v1, v2, v3, v4, v5, v6, v7⟩ := HBx6.out.eight; simp only [acE])
   obtain ⟨W, hW, hW5, hW6, hWE, W1, hG1, hG2⟩ := st16 HBx5.out HBx6.out (by omega) (.int .i64 ph2) (.int .i64 i2) (.int .i64 j2) (.int .i64 m2) (.int .u32 m3) (.int .u32 m4) (.slice la2 ld2.length lc2) (.slice sa2 st2.length sc2) (.int .i64 op2) (.int .i64 at2) (.int .i64 0) (.int .u32 0) (.int .u32 0) (.int .i64 a3) (.int .u32 a4) (.int .u32 a5)
   rw [hW]
   have HE := hid (hWE w HEx.out (by omega) (by omega))
   have HSz := hid (Nat.le_trans hG1.size hG2.size)
   have HWl := hid (HV.out.ld.two wdE_len hG1 hG2 (HN1.out.ne2 (fun d hd => (HOl.out d hd).1) (by have := HZs.out; omega)) (HN1.out.ne2 (fun d hd => (HOl.out d hd).2) (by have := HZs.out; omega)))
   have HWs := hid (HV.out.st.two locE_len hG1 hG2 (HN2.out.ne2 (fun d hd => (HOs.out d hd).1) (by have := HZs.out; omega)) (HN2.out.ne2 (fun d hd => (HOs.out d hd).2) (by have := HZs.out; omega)))
   obtain ⟨r0, r1, r2, r3, r4, r5, r6, r7⟩ := hW5.eight
   obtain ⟨q0, q1, q2, q3, q4, q5, q6, q7⟩ := hW6.eight
   have w5 := hW5.1
   have w6 := hW6.1
   exact bodyPost_ret (v := .tuple #[.agg (rsL ⟨ph2, i2, j2, (m2, m3, m4), ld2, st2⟩ la2 sa2 lc2 sc2).toArray, .agg (acE (op2, at2, (a3, a4, a5))).toArray]) (by simp [results, Tryd.results7, go_sem, r0, r1, r2, r3, r4, r5, r6, r7, q0, q1, q2, q3, q4, q5, q6, q7, w5, w6, acE, zW]) rfl (by rw [HRr.out]; exact ⟨_, la2, sa2, lc2, sc2, rfl, ⟨rfl, HWl.out, HWs.out, fun a ha => Nat.lt_of_lt_of_le (HV.out.lb a ha) HSz.out, fun a ha => Nat.lt_of_lt_of_le (HV.out.sb a ha) HSz.out⟩, HNl.out.trans (HN1.out.mono HEZ.out.size), HNs.out.trans (HN2.out.mono HEZ.out.size), HE.out⟩)
end Go.Proofs.YtdpbcfjfnclpiaaDoor
