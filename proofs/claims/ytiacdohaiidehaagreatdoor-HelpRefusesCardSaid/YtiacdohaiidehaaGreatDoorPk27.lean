/- Walks of package entry's Check and the searches that it uses. The walk of package entry's Check. Walks of package desc: Status, Pack, Field, and what check needs of slices.IsSortedFunc. Walks of package desc: check, Field, Words. -/
import Derived.Test.YtiacdohaiidehaaGreatDoorPk26
import Derived.Test.YtiacdohaiidehaaGreatDoorPk05
namespace Go.Proofs.YtiacdohaiidehaaGreatDoor
set_option linter.unusedSimpArgs false
set_option linter.unusedVariables false
open Go.RowKit
set_option maxHeartbeats 400000 in
theorem same_at (e : En) (kb : Nat) (x : Int) (w : World) (hc : w.cell? ⟨kb, 0, none⟩ = some (.int .i64 x)) :
 Calls Tryz.prog 122 #[.agg #[.int .i64 e.loc, .int .i64 e.val, .int .u32 e.ver, .int .u32 e.ref, .int .i64 e.new, .bool e.wr], .pointer (some ⟨kb, 0, none⟩)] w fun y w' => y = .returned (.bool (e.loc == x)) ∧ ∃ r, w' = ext w r := by
 have hlt := World.block_lt_of_cell? w _ hc
 simp only [] at hlt
 go_enter Tryz.func122, Tryz.ntmps122
 go_wp2_with fail
 go_ret
 exact ⟨rfl, by exact exP⟩
def idxN (l : List En) (x : Int) : Int := match l.findIdx? (fun y => y.loc == x) with | some i => i | none => -1
theorem idxN_hit {l : List En} {x : Int} {j : Nat} {e : En} (h : l[j]? = some e) (he : e.loc = x) (hno : ∀ q, q < j → ∀ e', l[q]? = some e' → e'.loc ≠ x) : idxN l x = j := by
 obtain ⟨hj, hk⟩ := List.getElem?_eq_some_iff.1 h
 have : l.findIdx? (fun y => y.loc == x) = some j := by
  rw [List.findIdx?_eq_some_iff_getElem]
  refine ⟨hj, by simp [hk, he], fun q hq => ?_⟩
  have := hno q hq l[q] (List.getElem?_eq_getElem (by omega))
  simpa using this
 simp [idxN, this]
theorem idxN_miss {l : List En} {x : Int} (hno : ∀ q, q < l.length → ∀ e', l[q]? = some e' → e'.loc ≠ x) : idxN l x = -1 := by
 have : l.findIdx? (fun y => y.loc == x) = none := by
  rw [List.findIdx?_eq_none_iff]
  intro e he
  obtain ⟨q, hq, rfl⟩ := List.getElem_of_mem he
  have := hno q hq l[q] (List.getElem?_eq_getElem hq)
  simpa using this
 simp [idxN, this]
set_option maxHeartbeats 1000000 in
theorem index_any (l : List En) (v : Value) (kb : Nat) (x : Int) (w : World) (hv : Es w v l) (hc : w.cell? ⟨kb, 0, none⟩ = some (.int .i64 x)) :
 Calls Tryz.prog 137 #[v, .func (.func 122) #[] #[.pointer (some ⟨kb, 0, none⟩)]] w fun y w' => y = .returned (.int .i64 (idxN l x)) ∧ ∃ r, w' = ext w r := by
 have HV := hid hv
 obtain ⟨a, c, rfl, ⟨hm, hlc⟩, _⟩ := hv
 have HC := hid hc
 clear hc
 go_enter Tryz.func137, Tryz.ntmps137
 go_wp2_with fail
 go_loopw [8] (fun i wr => ∃ j : Nat, j ≤ l.length ∧ i = .int .i64 j ∧ (∀ q, q < j → ∀ e', l[q]? = some e' → e'.loc ≠ x) ∧ Ext w wr) (fun i _ => l.length - (intOf i).toNat)
 case atStart => exact ⟨0, by omega, rfl, fun _ h => by omega, by exact exP⟩
 case round =>
  obtain ⟨j, hj, rfl, hno, r, rfl⟩ := hrel
  have HNo := hid hno
  clear hno
  by_cases hjl : j < l.length
  ·have hd : decide (j < l.length) = true := decide_eq_true hjl
   obtain ⟨hnl, b, o, hab, hbl, hcs⟩ := Sl.at HV.out (List.getElem?_eq_getElem hjl)
   have HX := hid (List.getElem?_eq_getElem hjl)
   generalize l[j] = e at hcs HX
   subst hab
   have c0 := hcs 0 (by omega)
   have c1 := hcs 1 (by omega)
   have c2 := hcs 2 (by omega)
   have c3 := hcs 3 (by omega)
   have c4 := hcs 4 (by omega)
   have c5 := hcs 5 (by omega)
   simp [enE] at c0 c1 c2 c3 c4 c5
   clear hcs hnl
   by_cases he : e.loc = x
   ·have he' : (e.loc == x) = true := by simpa using he
    have HR := hid (show idxN l x = j from idxN_hit HX.out he HNo.out)
    clear he
    go_wp2_with fail
    go_call (same_at e kb x _ (Ext.cell ⟨_, rfl⟩ HC.out)) as y w' ⟨rfl, r2, rfl⟩
    go_wp2_with fail
    go_ret
    exact ⟨ret_int HR.out.symm, by exact exP⟩
   ·have he' : (e.loc == x) = false := by simpa using he
    have HR : Hid (∀ q, q < j + 1 → ∀ e', l[q]? = some e' → e'.loc ≠ x) := hid (fun q hq e' hq' => by
     by_cases hqj : q = j
     ·subst hqj; rw [HX.out] at hq'; cases hq'; exact he
     ·exact HNo.out q (by omega) e' hq')
    clear he
    go_wp2_with fail
    go_call (same_at e kb x _ (Ext.cell ⟨_, rfl⟩ HC.out)) as y w' ⟨rfl, r2, rfl⟩
    go_wp2_with fail
    go_roundw
    case rel => exact ⟨j + 1, by omega, by go_num, HR.out, by exact exP⟩
    case measure => simp [intOf]; omega
  ·have hd : decide (j < l.length) = false := decide_eq_false hjl
   have HR := hid (show idxN l x = -1 from idxN_miss (fun q hq => HNo.out q (by omega)))
   go_wp2_with fail
   go_ret
   exact ⟨ret_int HR.out.symm, by exact exP⟩
theorem idxN_any (l : List En) (x : Int) : decide (0 ≤ idxN l x) = l.any (fun y => y.loc == x) := by
 unfold idxN
 cases h : l.findIdx? (fun y => y.loc == x) with
 | none =>
  rw [List.findIdx?_eq_none_iff] at h
  have : l.any (fun y => y.loc == x) = false := by
   rw [List.any_eq_false]; intro y hy; have := h y hy; simpa using this
  rw [this]; simp
 | some i =>
  have : l.any (fun y => y.loc == x) = true := by
   rw [List.findIdx?_eq_some_iff_getElem] at h
   obtain ⟨hi, hp, _⟩ := h
   rw [List.any_eq_true]; exact ⟨l[i], List.getElem_mem hi, hp⟩
  rw [this]; simp
set_option maxHeartbeats 1000000 in
theorem contains_any (l : List En) (v : Value) (kb : Nat) (x : Int) (w : World) (hv : Es w v l) (hc : w.cell? ⟨kb, 0, none⟩ = some (.int .i64 x)) :
 Calls Tryz.prog 121 #[v, .func (.func 122) #[] #[.pointer (some ⟨kb, 0, none⟩)]] w fun y w' => y = .returned (.bool (l.any (fun y => y.loc == x))) ∧ ∃ r, w' = ext w r := by
 have HV := hid hv
 obtain ⟨a, c, rfl, ⟨hm, hlc⟩, _⟩ := hv
 have HC := hid hc
 clear hc
 go_enter Tryz.func121, Tryz.ntmps121
 go_wp2_with fail
 go_call (index_any l _ kb x _ HV.out HC.out) as y w' ⟨rfl, r2, rfl⟩
 go_wp2_with fail
 go_ret
 exact ⟨ret_bool (idxN_any l x), by exact exP⟩
open Go.RowKit
def checkGo (pre : List En) : List En → Int
 | [] => 0
 | x :: r => if wrongN x ≠ 0 then wrongN x else if pre.any (fun y => y.loc == x.loc) = true then 11 else checkGo (pre ++ [x]) r
def checkE (l : List En) : Int := if l.length = 0 then 8 else if 32 < l.length then 15 else checkGo [] l
theorem checkGo_at {l : List En} {j : Nat} {e : En} (h : l[j]? = some e) : checkGo (l.take j) (l.drop j) = if wrongN e ≠ 0 then wrongN e else if (l.take j).any (fun y => y.loc == e.loc) = true then 11 else checkGo (l.take (j + 1)) (l.drop (j + 1)) := by
 obtain ⟨hj, hk⟩ := List.getElem?_eq_some_iff.1 h
 rw [List.drop_eq_getElem_cons hj, hk, List.take_succ_eq_append_getElem hj, hk]
 rfl
set_option maxHeartbeats 2000000 in
theorem echeck_any (l : List En) (v : Value) (hok : ∀ e ∈ l, EnOk e) (w : World) (hv : Es w v l) :
 Calls Tryz.prog 105 #[v] w fun y w' => y = .returned (.int .i64 (checkE l)) ∧ ∃ r, w' = ext w r := by
 have HV := hid hv
 have hmf : ∀ (fn : Fn) (first cap : Array Value) (w : World), (Instr.makeFunc fn first cap).run Tryz.prog w = .ok (.func fn first cap) w := fun _ _ _ _ => rfl
 have HO := hid hok
 obtain ⟨a, c, rfl, ⟨hm, hlc⟩, _⟩ := hv
 clear hok
 by_cases h0 : l.length = 0
 ·have HR := hid (show checkE l = 8 by simp [checkE, h0])
  have h0' : ((l.length : Int) == 0) = true := by rw [h0]; rfl
  clear h0
  go_enter Tryz.func105, Tryz.ntmps105
  go_wp2_with fail
  go_ret
  exact ⟨ret_int HR.out.symm, by exact exP⟩
 by_cases h32 : 32 < l.length
 ·have HR := hid (show checkE l = 15 by unfold checkE; rw [if_neg h0, if_pos h32])
  have h0' : ((l.length : Int) == 0) = false := beq_eq_false_iff_ne.2 (by omega)
  have h32' : (32 : Int) < (l.length : Int) := by omega
  clear h0 h32
  go_enter Tryz.func105, Tryz.ntmps105
  go_wp2_with fail
  go_ret
  exact ⟨ret_int HR.out.symm, by exact exP⟩
 have HE := hid (show checkE l = checkGo (l.take 0) (l.drop 0) by unfold checkE; rw [if_neg h0, if_neg h32]; simp)
 have h0' : ((l.length : Int) == 0) = false := beq_eq_false_iff_ne.2 (by omega)
 have h32' : ¬ (32 : Int) < (l.length : Int) := by omega
 clear h0
 go_enter Tryz.func105, Tryz.ntmps105
 go_wp2_with fail
 go_loopw [16] (fun i wr => ∃ j : Nat, j ≤ l.length ∧ i = .int .i64 j ∧ Hid (checkE l = checkGo (l.take j) (l.drop j)) ∧ Ext w wr) (fun i _ => l.length - (intOf i).toNat)
 case atStart => exact ⟨0, by omega, rfl, HE, by exact exP⟩
 case round =>
  clear HE
  obtain ⟨j, hj, rfl, HE, r, rfl⟩ := hrel
  by_cases hjl : j < l.length
  ·have hd : decide (j < l.length) = true := decide_eq_true hjl
   obtain ⟨hnl, b, o, hab, hbl, hcs⟩ := Sl.at HV.out (List.getElem?_eq_getElem hjl)
   have HX := hid (List.getElem?_eq_getElem hjl)
   have hek := HO.out l[j] (List.getElem_mem hjl)
   generalize l[j] = e at hcs HX hek
   have HK := hid hek
   subst hab
   have c0 := hcs 0 (by omega)
   have c1 := hcs 1 (by omega)
   have c2 := hcs 2 (by omega)
   have c3 := hcs 3 (by omega)
   have c4 := hcs 4 (by omega)
   have c5 := hcs 5 (by omega)
   simp [enE] at c0 c1 c2 c3 c4 c5
   have HA := hid (checkGo_at HX.out)
   clear hcs hnl hek
   by_cases hw : wrongN e = 0
   ·have hw' : (wrongN e != 0) = false := by simpa using hw
    cases ha : (l.take j).any (fun y => y.loc == e.loc)
    ·have HN : Hid (checkE l = checkGo (l.take (j + 1)) (l.drop (j + 1))) := hid (by rw [HE.out, HA.out, if_neg (by simpa using hw), ha]; simp)
     have HAn := hid ha
     clear ha hw
     go_wp2_with fail
     go_call (wrong_any e HK.out _) as y w' ⟨rfl, r2, rfl⟩
     go_wp2_with fail
     go_call (contains_any (l.take j) _ _ e.loc _ ((Sl.take HV.out j hj c (by omega)).of enE_len (by exact exP)) (by simp [go_sem])) as y w' ⟨rfl, r3, rfl⟩
     rw [HAn.out]
     go_wp2_with fail
     go_roundw
     case rel => exact ⟨j + 1, by omega, by go_num, HN, by exact exP⟩
     case measure => simp [intOf]; omega
    ·have HN : Hid (checkE l = 11) := hid (by rw [HE.out, HA.out, if_neg (by simpa using hw), ha]; simp)
     have HAn := hid ha
     clear ha hw
     go_wp2_with fail
     go_call (wrong_any e HK.out _) as y w' ⟨rfl, r2, rfl⟩
     go_wp2_with fail
     go_call (contains_any (l.take j) _ _ e.loc _ ((Sl.take HV.out j hj c (by omega)).of enE_len (by exact exP)) (by simp [go_sem])) as y w' ⟨rfl, r3, rfl⟩
     rw [HAn.out]
     go_wp2_with fail
     go_ret
     exact ⟨ret_int HN.out.symm, by exact exP⟩
   ·have HN : Hid (checkE l = wrongN e) := hid (by rw [HE.out, HA.out, if_pos hw])
    have hw' : (wrongN e != 0) = true := by simpa using hw
    clear hw
    go_wp2_with fail
    go_call (wrong_any e HK.out _) as y w' ⟨rfl, r2, rfl⟩
    go_wp2_with fail
    go_ret
    exact ⟨ret_int HN.out.symm, by exact exP⟩
  ·have hd : decide (j < l.length) = false := decide_eq_false hjl
   have HN : Hid (checkE l = 0) := hid (by rw [HE.out, List.drop_eq_nil_of_le (by omega)]; rfl)
   go_wp2_with fail
   go_ret
   exact ⟨ret_int HN.out.symm, by exact exP⟩
open Go.RowKit
set_option maxHeartbeats 400000 in
theorem status_any (st seq : Int) (h0 : 0 ≤ seq) (h1 : seq ≤ 4294967295) (w : World) :
 Calls Tryz.prog 93 #[.int .i64 st, .int .i64 seq] w fun e w' => e = .returned (.agg #[.int .i64 st, .int .u32 seq, .int .u32 0]) ∧ ∃ r, w' = ext w r := by
 have hq : IntKind.u32.wrap seq = seq := wraps_u32w seq h0 (by omega)
 go_enter Tryz.func93, Tryz.ntmps93
 (repeat (first | go_values | go_skip | go_guarded | go_step | go_upon | (simp only [Int.not_lt, Int.not_le] at *; go_simp) | (go_ite <;> go_prune <;> (try go_simp))))
 exact bodyPost_ret (v := .agg #[.int .i64 st, .int .u32 seq, .int .u32 0]) (by simp [results, Tryz.results93, go_sem]) rfl ⟨rfl, by (show Ext _ _; repeat first | (with_reducible first | (refine xH ?_; assumption) | exact xR _ | refine xX ?_ _ | refine xA ?_ _) | refine xD ?_ | refine xN ?_ _ | refine xS ?_ (by (try dsimp only); first | omega | (simp; done) | (simp; omega)) _)⟩
def packW (e : En) : List Wd := [(e.loc, (if e.wr = true then 1 else 0), 0), (e.val, e.ver, 0), (e.new, 0, 0)]
set_option maxHeartbeats 1000000 in
theorem pack_any (loc val ver ref new : Int) (wr : Bool) (w : World) :
 Calls Tryz.prog 94 #[.agg #[.int .i64 loc, .int .i64 val, .int .u32 ver, .int .u32 ref, .int .i64 new, .bool wr]] w fun e w' =>
  e = .returned (.agg #[.int .i64 loc, .int .u32 (if wr = true then 1 else 0), .int .u32 0, .int .i64 val, .int .u32 ver, .int .u32 0, .int .i64 new, .int .u32 0, .int .u32 0]) ∧ ∃ r, w' = ext w r := by
 cases wr
 ·go_enter Tryz.func94, Tryz.ntmps94
  (repeat (first | go_values | go_skip | go_guarded | go_step | go_upon | (simp only [Int.not_lt, Int.not_le] at *; go_simp) | (go_ite <;> go_prune <;> (try go_simp))))
  exact bodyPost_ret (v := .agg #[.int .i64 loc, .int .u32 0, .int .u32 0, .int .i64 val, .int .u32 ver, .int .u32 0, .int .i64 new, .int .u32 0, .int .u32 0]) (by simp [results, Tryz.results94, go_sem]) rfl ⟨rfl, by (show Ext _ _; repeat first | (with_reducible first | (refine xH ?_; assumption) | exact xR _ | refine xX ?_ _ | refine xA ?_ _) | refine xD ?_ | refine xN ?_ _ | refine xS ?_ (by (try dsimp only); first | omega | (simp; done) | (simp; omega)) _)⟩
 ·go_enter Tryz.func94, Tryz.ntmps94
  (repeat (first | go_values | go_skip | go_guarded | go_step | go_upon | (simp only [Int.not_lt, Int.not_le] at *; go_simp) | (go_ite <;> go_prune <;> (try go_simp))))
  exact bodyPost_ret (v := .agg #[.int .i64 loc, .int .u32 1, .int .u32 0, .int .i64 val, .int .u32 ver, .int .u32 0, .int .i64 new, .int .u32 0, .int .u32 0]) (by simp [results, Tryz.results94, go_sem]) rfl ⟨rfl, by (show Ext _ _; repeat first | (with_reducible first | (refine xH ?_; assumption) | exact xR _ | refine xX ?_ _ | refine xA ?_ _) | refine xD ?_ | refine xN ?_ _ | refine xS ?_ (by (try dsimp only); first | omega | (simp; done) | (simp; omega)) _)⟩
theorem cmp_any (a b : En) (ha : 0 ≤ a.loc ∧ a.loc ≤ 4095) (hb : 0 ≤ b.loc ∧ b.loc ≤ 4095) (w : World) :
 Calls Tryz.prog 107 #[.agg #[.int .i64 a.loc, .int .i64 a.val, .int .u32 a.ver, .int .u32 a.ref, .int .i64 a.new, .bool a.wr], .agg #[.int .i64 b.loc, .int .i64 b.val, .int .u32 b.ver, .int .u32 b.ref, .int .i64 b.new, .bool b.wr]] w
  fun y w' => y = .returned (.int .i64 (a.loc - b.loc)) ∧ ∃ r, w' = ext w r := by
 obtain ⟨h0, h1⟩ := ha
 obtain ⟨h2, h3⟩ := hb
 go_enter Tryz.func107, Tryz.ntmps107
 go_wp2_with fail
 go_ret
 exact ⟨rfl, by exact exP⟩
def sortTo (es : List En) : Nat → Bool
 | 0 => true
 | k + 1 => (match es[k + 1]?, es[k]? with | some a, some b => decide (b.loc ≤ a.loc) | _, _ => true) && sortTo es k
def sortB (es : List En) : Bool := sortTo es (es.length - 1)
theorem sortTo_at {es : List En} {k : Nat} {a b : En} (ha : es[k + 1]? = some a) (hb : es[k]? = some b) : sortTo es (k + 1) = (decide (b.loc ≤ a.loc) && sortTo es k) := by
 simp only [sortTo, ha, hb]
set_option maxRecDepth 100000 in
set_option maxHeartbeats 1000000 in
theorem sorted_any (es : List En) (v : Value) (hok : ∀ e ∈ es, 0 ≤ e.loc ∧ e.loc ≤ 4095) (h32 : es.length ≤ 1000) (w : World) (hv : Es w v es) :
 Calls Tryz.prog 106 #[v, .func (.func 107) #[] #[]] w fun y w' => y = .returned (.bool (sortB es)) ∧ ∃ r, w' = ext w r := by
 have HV := hid hv
 have HO := hid hok
 obtain ⟨a, c, rfl, ⟨hm, hlc⟩, _⟩ := hv
 clear hok
 by_cases h0 : es.length = 0
 ·have HE := hid (show sortB es = true by unfold sortB; rw [h0]; rfl)
  obtain ⟨n, hn⟩ : ∃ n, n = es.length := ⟨_, rfl⟩
  rw [← hn] at h0 ⊢
  subst h0
  clear hn
  go_enter Tryz.func106, Tryz.ntmps106
  go_wp2_with fail
  go_loopw [5] (fun i wr => i = .int .i64 (-1) ∧ ∃ r, wr = ext w r) (fun _ _ => 0)
  case atStart => exact ⟨rfl, by exact exP⟩
  case round =>
   obtain ⟨rfl, r, rfl⟩ := hrel
   go_wp2_with fail
   go_ret
   exact ⟨ret_bool HE.out.symm, by exact exP⟩
 ·obtain ⟨n, hn⟩ : ∃ n, es.length = n + 1 := ⟨es.length - 1, by omega⟩
  have HN := hid hn
  have hnb : n ≤ 1000 := by omega
  rw [hn] at HV ⊢
  have HS := hid (show sortB es = sortTo es n by unfold sortB; rw [hn]; rfl)
  clear hn h0 hm hlc
  go_enter Tryz.func106, Tryz.ntmps106
  go_wp2_with fail
  go_loopw [5] (fun i wr => ∃ j : Nat, j ≤ n ∧ i = .int .i64 j ∧ Hid (sortB es = sortTo es j) ∧ ∃ r, wr = ext w r) (fun i _ => (intOf i).toNat)
  case atStart => exact ⟨n, Nat.le_refl _, by go_num, HS, by exact exP⟩
  case round =>
   clear HS
   obtain ⟨j, hj, rfl, HS, r, rfl⟩ := hrel
   cases j with
   | zero =>
    have HT := hid (show sortB es = true from HS.out)
    go_wp2_with fail
    go_ret
    exact ⟨ret_bool HT.out.symm, by exact exP⟩
   | succ k =>
    have hk1 : k + 1 < es.length := by have := HN.out; omega
    have hk0 : k < es.length := by omega
    obtain ⟨hn1, b, o, hab, hbl, hcs⟩ := Sl.at HV.out (List.getElem?_eq_getElem hk1)
    obtain ⟨hn2, b', o', hab', _, hcs'⟩ := Sl.at HV.out (List.getElem?_eq_getElem hk0)
    have HX := hid (List.getElem?_eq_getElem hk1)
    have HY := hid (List.getElem?_eq_getElem hk0)
    have hx := HO.out _ (List.getElem_mem hk1)
    have hy := HO.out _ (List.getElem_mem hk0)
    generalize es[k + 1] = x at hcs HX hx
    generalize es[k] = y at hcs' HY hy
    have HA := hid (sortTo_at HX.out HY.out)
    subst hab
    cases hab'
    obtain ⟨x0, x1, x2, x3, x4, x5⟩ := x
    obtain ⟨y0, y1, y2, y3, y4, y5⟩ := y
    have k0 := hcs 0 (by omega)
    have k1 := hcs 1 (by omega)
    have k2 := hcs 2 (by omega)
    have k3 := hcs 3 (by omega)
    have k4 := hcs 4 (by omega)
    have k5 := hcs 5 (by omega)
    have q0 := hcs' 0 (by omega)
    have q1 := hcs' 1 (by omega)
    have q2 := hcs' 2 (by omega)
    have q3 := hcs' 3 (by omega)
    have q4 := hcs' 4 (by omega)
    have q5 := hcs' 5 (by omega)
    simp [enE] at k0 k1 k2 k3 k4 k5 q0 q1 q2 q3 q4 q5
    clear hcs hcs' hn1 hn2
    have hi0 : (0 : Int) ≤ (k : Int) := by omega
    have hi1 : (k : Int) < (n : Int) + 1 := by omega
    have hi2 : (0 : Int) ≤ (k : Int) + 1 := by omega
    have hi3 : (k : Int) + 1 < (n : Int) + 1 := by omega
    have HA2 := hid (show sortB es = (decide (y0 ≤ x0) && sortTo es k) by rw [HS.out, HA.out])
    clear hk0 hk1 HS HA
    have hx' := hid hx
    have hy' := hid hy
    dsimp only at hx hy
    obtain ⟨hx0, hx1⟩ := hx
    obtain ⟨hy0, hy1⟩ := hy
    have hw1 : IntKind.i64.wrap ((k : Int) + 1 - 1) = (k : Int) := by rw [show (k : Int) + 1 - 1 = k by omega]; exact IntWalk.i64_in _ (by omega)
    have hw2 : ((k : Int) + 1).toNat = k + 1 := by omega
    by_cases hlt : x0 - y0 < 0
    ·have HN := hid (show sortB es = false by rw [HA2.out, decide_eq_false (by omega)]; rfl)
     clear HA2
     go_wp2_with fail
     refine region_ext (by kernel_rfl) (by kernel_rfl) ?_
     repeat (go_big_quiet_step ((go_at_call 107; exact quiet_ext (cmp_any ⟨x0, x1, x2, x3, x4, x5⟩ ⟨y0, y1, y2, y3, y4, y5⟩ hx'.out hy'.out _))))
     refine wpQuiet_nil ?_
     rintro _ ⟨r4, rfl⟩
     go_wp2_with fail
     go_ret
     exact ⟨ret_bool HN.out.symm, by exact exP⟩
    ·have HN := hid (show sortB es = sortTo es k by rw [HA2.out, decide_eq_true (by omega)]; rfl)
     clear HA2
     go_wp2_with fail
     refine region_ext (by kernel_rfl) (by kernel_rfl) ?_
     repeat (go_big_quiet_step ((go_at_call 107; exact quiet_ext (cmp_any ⟨x0, x1, x2, x3, x4, x5⟩ ⟨y0, y1, y2, y3, y4, y5⟩ hx'.out hy'.out _))))
     refine wpQuiet_nil ?_
     rintro _ ⟨r4, rfl⟩
     clear hw1 hw2
     go_wp2_with fail
     go_roundw
     case rel => exact ⟨k, by omega, rfl, HN, by exact exP⟩
     case measure => simp [intOf]
open Go.RowKit
theorem checkGo_wrong : ∀ (l pre : List En), checkGo pre l = 0 → ∀ x ∈ l, wrongN x = 0
 | [], _, _ => by simp
 | x :: r, pre, h => by
  unfold checkGo at h
  split at h
  ·rename_i hw; exact absurd h hw
  ·rename_i hw
   split at h
   ·cases h
   ·intro y hy
    rcases List.mem_cons.1 hy with rfl | hy
    ·simpa using hw
    ·exact checkGo_wrong r (pre ++ [x]) h y hy
theorem check_loc {l : List En} (h : checkE l = 0) : (∀ x ∈ l, 0 ≤ x.loc ∧ x.loc ≤ 4095) ∧ 1 ≤ l.length ∧ l.length ≤ 32 := by
 unfold checkE at h
 split at h
 ·cases h
 ·split at h
  ·cases h
  ·refine ⟨fun x hx => ?_, by omega, by omega⟩
   have hw := checkGo_wrong l [] h x hx
   unfold wrongN at hw
   split at hw
   ·cases hw
   ·omega
def mayAll (t c b : Int) (es : List En) : Bool := es.all (fun e => mayN t c b e.loc)
theorem mayAll_at {t c b : Int} {es : List En} {j : Nat} {e : En} (h : es[j]? = some e) : mayAll t c b (es.drop j) = (mayN t c b e.loc && mayAll t c b (es.drop (j + 1))) := by
 obtain ⟨hj, hk⟩ := List.getElem?_eq_some_iff.1 h
 rw [List.drop_eq_getElem_cons hj, hk]
 rfl
def dcheckN (t c b who seq st : Int) (es : List En) : Int :=
 if checkN t c b ≠ 0 then 1 else if (placeN t c b who).2 = 0 then 3 else if seq < 1 ∨ 16777215 < seq then 3 else if st < 0 ∨ 3 < st then 2 else if checkE es ≠ 0 then checkE es
 else if sortB es = false then 12 else if mayAll t c b es = false then 10 else if (placeN t c b who).2 < (es.length : Int) then 15 else 0
set_option maxRecDepth 100000 in
set_option maxHeartbeats 2000000 in
theorem dcheck_any (t c b who seq st : Int) (hw1 : -9223372036854775808 ≤ who) (hw2 : who ≤ 9223372036854775807) (es : List En) (v : Value) (hok : ∀ e ∈ es, EnOk e) (w : World) (hs : Szs w) (hv : Es w v es) :
 Calls Tryz.prog 92 #[.agg #[.int .i64 who, .int .i64 seq, .int .i64 st, v], .agg #[.int .i64 t, .int .i64 c, .int .i64 b]] w fun y w' => y = .returned (.int .i64 (dcheckN t c b who seq st es)) ∧ ∃ r, w' = ext w r := by
 have HV := hid hv
 have HS := hid hs
 have HO := hid hok
 obtain ⟨a, cp, rfl, ⟨hm, hlc⟩, _⟩ := hv
 clear hs hok
 obtain ⟨q, hq⟩ : ∃ q, q = dcheckN t c b who seq st es := ⟨_, rfl⟩
 have HQ := hid hq
 rw [← hq]
 clear hq
 go_enter Tryz.func92, Tryz.ntmps92
 go_wp2_with fail
 go_call (check_any t c b _ (HS.out.of (by exact exP))) as e w' ⟨rfl, r1, rfl⟩
 by_cases h1 : checkN t c b = 0
 rotate_left
 ·have HR := hid (show q = 1 by rw [HQ.out]; unfold dcheckN; rw [if_pos h1])
  have hb : (checkN t c b != 0) = true := by simpa using h1
  clear h1
  go_wp2_with fail
  go_ret
  exact ⟨ret_int HR.out.symm, by exact exP⟩
 have H1 := hid h1
 rw [h1]
 clear h1
 go_wp2_with fail
 go_call (place_any t c b who hw1 hw2 _ (HS.out.of (by exact exP))) as e w' ⟨rfl, r2, rfl⟩
 obtain ⟨⟨pa, pm⟩, hp⟩ : ∃ p, p = placeN t c b who := ⟨_, rfl⟩
 rw [← hp]
 have HP := hid hp
 clear hp
 by_cases h2 : pm = 0
 ·have HR := hid (show q = 3 by rw [HQ.out]; unfold dcheckN; rw [if_neg (by rw [H1.out]; simp), if_pos (by rw [← HP.out]; exact h2)])
  subst h2
  go_wp2_with fail
  go_ret
  exact ⟨ret_int HR.out.symm, by exact exP⟩
 have H2 := hid h2
 have hb2 : (pm == 0) = false := by simpa using h2
 clear h2
 by_cases h3 : seq < 1 ∨ 16777215 < seq
 ·have HR := hid (show q = 3 by rw [HQ.out]; unfold dcheckN; rw [if_neg (by rw [H1.out]; simp), if_neg (by rw [← HP.out]; exact H2.out), if_pos h3])
  rcases h3 with h3 | h3
  ·go_wp2_with fail
   go_ret
   exact ⟨ret_int HR.out.symm, by exact exP⟩
  ·have h3' : ¬ seq < 1 := by omega
   go_wp2_with fail
   go_ret
   exact ⟨ret_int HR.out.symm, by exact exP⟩
 have H3 := hid h3
 have h31 : ¬ seq < 1 := by omega
 have h32 : ¬ 16777215 < seq := by omega
 clear h3
 by_cases h4 : st < 0 ∨ 3 < st
 ·have HR := hid (show q = 2 by rw [HQ.out]; unfold dcheckN; rw [if_neg (by rw [H1.out]; simp), if_neg (by rw [← HP.out]; exact H2.out), if_neg H3.out, if_pos h4])
  rcases h4 with h4 | h4
  ·go_wp2_with fail
   go_ret
   exact ⟨ret_int HR.out.symm, by exact exP⟩
  ·have h4' : ¬ st < 0 := by omega
   go_wp2_with fail
   go_ret
   exact ⟨ret_int HR.out.symm, by exact exP⟩
 have H4 := hid h4
 have h41 : ¬ st < 0 := by omega
 have h42 : ¬ 3 < st := by omega
 clear h4
 go_wp2_with fail
 go_call (echeck_any es _ HO.out _ (HV.out.of enE_len (by exact exP))) as e w' ⟨rfl, r3, rfl⟩
 by_cases h5 : checkE es = 0
 rotate_left
 ·have HR := hid (show q = checkE es by rw [HQ.out]; unfold dcheckN; rw [if_neg (by rw [H1.out]; simp), if_neg (by rw [← HP.out]; exact H2.out), if_neg H3.out, if_neg H4.out, if_pos h5])
  have hb : (checkE es != 0) = true := by simpa using h5
  clear h5
  go_wp2_with fail
  go_ret
  exact ⟨ret_int HR.out.symm, by exact exP⟩
 obtain ⟨hloc, hl1, hl32⟩ := check_loc h5
 have HLoc := hid hloc
 have H5 := hid h5
 rw [h5]
 clear h5 hloc
 go_wp2_with fail
 go_call (sorted_any es _ HLoc.out (by omega) _ (HV.out.of enE_len (by exact exP))) as e w' ⟨rfl, r4, rfl⟩
 cases h6 : sortB es
 ·have HR := hid (show q = 12 by rw [HQ.out]; unfold dcheckN; rw [if_neg (by rw [H1.out]; simp), if_neg (by rw [← HP.out]; exact H2.out), if_neg H3.out, if_neg H4.out, if_neg (by rw [H5.out]; simp), if_pos h6])
  clear h6
  go_wp2_with fail
  go_ret
  exact ⟨ret_int HR.out.symm, by exact exP⟩
 have H6 := hid h6
 clear h6
 have HT := hid (show q = if mayAll t c b es = false then 10 else if pm < (es.length : Int) then 15 else 0 by
  rw [HQ.out]; unfold dcheckN; rw [if_neg (by rw [H1.out]; simp), if_neg (by rw [← HP.out]; exact H2.out), if_neg H3.out, if_neg H4.out, if_neg (by rw [H5.out]; simp), if_neg (by rw [H6.out]; simp), ← HP.out])
 have H0 := hid (show mayAll t c b es = mayAll t c b (es.drop 0) from rfl)
 go_wp2_with fail
 go_loopw [54] (fun i wr => ∃ j : Nat, j ≤ es.length ∧ i = .int .i64 j ∧ Hid (mayAll t c b es = mayAll t c b (es.drop j)) ∧ ∃ r, wr = ext (ext ((w.alloc (.cells #[.int .i64 who, .int .i64 seq, .int .i64 st, .slice a es.length cp] 162)).alloc (.cells #[.int .i64 t, .int .i64 c, .int .i64 b] 30)) r1) r) (fun i _ => es.length - (intOf i).toNat)
 case atStart => exact ⟨0, by omega, rfl, H0, by exact exP⟩
 case round =>
  clear H0
  obtain ⟨j, hj, rfl, HJ, r, rfl⟩ := hrel
  by_cases hjl : j < es.length
  ·have hd : decide (j < es.length) = true := decide_eq_true hjl
   obtain ⟨hnl, b0, o, hab, hbl, hcs⟩ := Sl.at HV.out (List.getElem?_eq_getElem hjl)
   have HX := hid (List.getElem?_eq_getElem hjl)
   have hlc2 := HLoc.out _ (List.getElem_mem hjl)
   generalize es[j] = e at hcs HX hlc2
   have HA := hid (mayAll_at (t := t) (c := c) (b := b) HX.out)
   subst hab
   obtain ⟨loc, val, ver, ref, new, wr1⟩ := e
   have k0 := hcs 0 (by omega)
   have k1 := hcs 1 (by omega)
   have k2 := hcs 2 (by omega)
   have k3 := hcs 3 (by omega)
   have k4 := hcs 4 (by omega)
   have k5 := hcs 5 (by omega)
   simp [enE] at k0 k1 k2 k3 k4 k5
   clear hcs hnl
   dsimp only at hlc2
   obtain ⟨hlo, hhi⟩ := hlc2
   cases hmay : mayN t c b loc
   ·have HM := hid hmay
    have HR := hid (show q = 10 by rw [HT.out, if_pos (by rw [HJ.out, HA.out, hmay]; rfl)])
    clear hmay HA HJ
    go_wp2_with fail
    go_call (may_any t c b loc (by omega) (by omega) _ (HS.out.of (by exact exP))) as e w' ⟨rfl, r5, rfl⟩
    rw [HM.out]
    go_wp2_with fail
    go_ret
    exact ⟨ret_int HR.out.symm, by exact exP⟩
   ·have HM := hid hmay
    have HN := hid (show mayAll t c b es = mayAll t c b (es.drop (j + 1)) by rw [HJ.out, HA.out, hmay]; rfl)
    clear hmay HA HJ
    go_wp2_with fail
    go_call (may_any t c b loc (by omega) (by omega) _ (HS.out.of (by exact exP))) as e w' ⟨rfl, r5, rfl⟩
    rw [HM.out]
    go_wp2_with fail
    go_roundw
    case rel => exact ⟨j + 1, by omega, by go_num, HN, by exact exP⟩
    case measure => simp [intOf]; omega
  ·have hd : decide (j < es.length) = false := decide_eq_false hjl
   have HM := hid (show mayAll t c b es = true by rw [HJ.out, List.drop_eq_nil_of_le (by omega)]; rfl)
   clear HJ
   by_cases h7 : pm < (es.length : Int)
   ·have HR := hid (show q = 15 by rw [HT.out, if_neg (by rw [HM.out]; simp), if_pos h7])
    go_wp2_with fail
    go_ret
    exact ⟨ret_int HR.out.symm, by exact exP⟩
   ·have HR := hid (show q = 0 by rw [HT.out, if_neg (by rw [HM.out]; simp), if_neg h7])
    go_wp2_with fail
    go_ret
    exact ⟨ret_int HR.out.symm, by exact exP⟩
end Go.Proofs.YtiacdohaiidehaaGreatDoor
